/- A part. -/
import Derived.Lib.SliceRun
import Derived.Shelf.RegionOpenPlain
import Derived.Defers
import Derived.Test.YtblpaldggenbaaaGreatDoorMi
namespace Go.Proofs.YtblpaldggenbaaaGreatDoor
open Go.RowKit Go.Proofs.Tryz
set_option maxRecDepth 100000
set_option maxHeartbeats 64000000
variable{D:DS}{a:Int}{b:LI}{α:Type}{J:JM}{i:Int}
section
open Go.Lib Go.Shelf
section
variable {I:aK} {w:World} {L:List az} {e:TypeId} {size:Nat}
theorem St.TP{b n c:Nat}{N:LV}(h:St I w (ct e size (.slice (aO b) n c) n N::L))(o:Nat)(R:LV)(q:o+R.length<=n*size):
 St I (w.setCells b o R) (ct e size (.slice (aO b) n c) n (bm N o R)::L):=
 h.oN (kB (h.row 0 rfl) o q) (jS b R o w (Fr.refl _ _) (λ_=>rfl)) (.inl rfl)
theorem St.SS{A:OA}{n c m:Nat}{N:LV}(h:St I w (ct e size (.slice A n c) n N::L))(p:m<=n):
 St I w (ct e size (.slice A m c) m (N.take (m*size))::L):=by
 exact adh
theorem xT{P:Program}(w:World)(t e l:TypeId)(z:Value)(R:P.underlying t=some (.slice e))(o:∀w,(zeroValue e).run P w= .ok z w)(b n c:Nat)(C:LV)(A:(Builtin.zeroCells z.cells n).toList=C)(Z:∀u∈C,u.oneCell'=true)(W:0<n)
 (D:∀j,j<C.length->(w.cell? ⟨b,0+j,none⟩).isSome=true) (a:∀j,j<C.length->w.frozen? ⟨b,0+j,none⟩=false):
 (Builtin.clear_ #[t] l #[.slice (aO b) n c]).run P w= .ok (.tuple #[]) (w.setCells b 0 C):=by
 have G:=run_storeCells_cells (P:=P) b 0 C 0 w (by simpa using D) (by simpa using a) Z;simp only[yd]at G;obtain⟨m,rfl⟩:∃m,n=m+1:=⟨n-1,oM⟩;simp[Builtin.clear_,run_underlying R,o,A,G]
end
theorem Vo{I:aK}{L:List az}(A:OA)(k c:Nat)(F:List lR)(w:World)(Q:k<=100)(h:St I w (aB 262 2 fO (.slice A k c) F::L)):
 Rt I w 233 #[.slice A k c,iI 0,iI (k:Nat)] (.slice A 0 c) (aB 262 2 fO (.slice A 0 c) []::L):=by
 obtain⟨V,d,p,Z⟩:=h.cu;have r:=Z.row 0 rfl;have o:∀w,(zeroValue 262).run prog w= .ok (.agg #[iW 0,sN]) w:=λw=>kR
 by_cases W:k=0
 ·subst W
  have R:F=[]:=BJ d.symm;subst R;have a:0<=c:=iD _;have H:=aa h;clear h Z r o p d
  go_enter func233,ntmps233
  go_wp2
  all_goals
   go_ret
   exact⟨rfl,H⟩
 ·obtain⟨b,rfl⟩:=iE r oM
  obtain⟨X,B,D,Y,n,a,_⟩:=mF r;have a:c<=9223372036854775807:=a;obtain⟨A,q⟩:∃A:Addr,(if c=k then some (⟨b,0,none⟩:Addr)else some ⟨b,k*2,none⟩)=some A:=by split<;>exact⟨_,rfl⟩
  obtain⟨C,T⟩:∃C,(Builtin.zeroCells (Value.agg #[iW 0,sN]).cells k).toList=C:=⟨_,rfl⟩;have e:C.length=k*2:=by rw[<-T];simp[Builtin.zeroCells,Value.cells]
  have S:∀u∈C,u.oneCell'=true:=by
   rw[<-T];intro u y;simp only[Builtin.zeroCells,Yy,um]at y;obtain⟨i,_,rfl⟩:=y;have:i%2=0\/i%2=1:=oM
   rcases this with h|h<;>simp[Value.cells,h,Value.oneCell']
  have G:=Z.drew;have g:=iX (G.row 0 rfl) 0 (k*2) oM;have U:∀l,(Builtin.clear_ #[194] l #[.slice (aO b) k c]).run prog w.drew= .ok (.tuple #[]) (w.drew.setCells b 0 C):=
   λl=>xT w.drew _ _ l _ underlying194 o b k c C T S oM (λj N=>(g j oM).1) (λj N=>(g j oM).2)
  have M:=(G.TP 0 C oM).SS (m:=0) (iD _);have K:=aa M;clear g h Z G M r B D Y o T S d p e;have t:prog.follows Departure.mixedOrders=true:=kR
  have d0:((0:Int)==(k:Int))=false:=jM oM;have d1:((k:Int)==(0:Int))=false:=jM oM
  go_enter func233,ntmps233
  go_wp2_with fail
  go_region_law_o (refine step_append_room rfl (.tmp 22) (.tmp 25) 194 rfl 262 _ 2 underlying194 rfl rfl b 0 0 c (by simp[Act.eval,Act.put]) A 0 (c-k) [] (by simp[Act.eval,Act.put]) rfl abN abN oM abN ?_;rw[World.setCells])
  go_wp2
  go_ret
  refine⟨rfl,?_⟩;have E:St I (w.drew.setCells b 0 C) (ct 262 2 (.slice (aO b) 0 c) 0 []::L):=K.swap.tail;exact St.eu (f:=λV=>aX (ct 262 2 (.slice (aO b) 0 c) ([]:List lR).length V) (bj (λw=>∀(i:Nat) x,([]:List lR)[i]? =some x->fO w ((V.drop (i*2)).take 2) x))) [] ((E.bH (λO _ i x z=>by simp at z)).swap).aM
end
section
open Go.Shelf
def JM.RK(J:JM):Int:=((J.held.getLast?).map Prod.fst).getD J.low
def JM.trim(J:JM):JM:={J with first:=J.first+(J.held.length:Nat),low:=J.RK,held:=[]}
theorem vV.trim(h:vV J)(a:J.first+(J.held.length:Nat)<=4000000000):vV J.trim where
 a0:=h.a0
 n0:=h.n0
 f0:=⟨by have:=h.f0;show 0<=J.first+_;omega,a⟩
 e0:=h.e0
 l0:=by
  show 0<=J.RK/\J.RK<_;unfold JM.RK
  cases B:J.held.getLast? with
  |none=>exact h.l0
  |some x=>exact(h.b0 x (List.mem_of_getLast? B)).2.2
 h0:=iD _
 b0:=λx B=>by simp[JM.trim]at B
theorem RB{I:aK}{L:List az}(hT:kL I)(g j kk:Nat)(D:DS)(J:JM)(n:Nat)(w:World)(D0:n=J.held.length)(u:dE D kk)(F0:kk<=900000)(z:vV J)(a:J.first+(J.held.length:Nat)<=4000000000)(ha:0<=J.at_/\J.at_+1<(D.n:Int))(h:St I w (jR g j J::di j D::L)):
 Rt I w 229 #[pO g,iI (n:Nat)] (iI (ic D J.at_ J.trim.slot)) (jR g j J.trim::di j (cG D J.at_ J.trim.slot)::L):=by
 obtain⟨A,c,Z⟩:=h.jO;have p:=z.trim a;obtain⟨U,Y,W,o,t,hl⟩:=J;have a:W+(hl.length:Nat)<=4000000000:=a;have B0:0<=W/\W<=4000000000:=z.f0;have C0:hl.length<=100:=by have Z:hl.length<=Y:=z.h0;have G:1<=Y/\Y<=100:=z.n0;omega
 have d:n=hl.length:=D0;clear D0;have Z:St I w (ab g 196 #[pO j,iI U,iI (Y:Nat),iW W,iW o,iW t,.slice A hl.length c]::aB 262 2 fO (.slice A hl.length c) hl::di j D::L):=Z;obtain⟨k,H⟩:∃x,x=JM.RK ⟨U,Y,W,o,t,hl⟩:=⟨_,rfl⟩;obtain⟨e,r⟩:∃x,x=W+(hl.length:Nat):=⟨_,rfl⟩;have Q:JM.trim ⟨U,Y,W,o,t,hl⟩=⟨U,Y,e,o,k,[]⟩:=by rw[H,r];rfl
 rw[Q]at p⊢;rw[<-d]at Z r C0;have C:=aa (λ(O:World) (F:St I O (jR g j ⟨U,Y,e,o,k,[]⟩::di j D::L))=>Fg hT g j kk D ⟨U,Y,e,o,k,[]⟩ O u F0 p ha F);have w1:IntKind.u32.wrap (n:Int)=(n:Int):=eP oM;have R:IntKind.u32.wrap (W+(n:Int))=e:=by rw[<-r];exact eP oM
 have b:=aa (λ(y:OA) (O:World) (F:St I O (aB 262 2 fO (.slice y n c) hl::ab g 196 #[pO j,iI U,iI (Y:Nat),iW e,iW o,iW k,.slice y n c]::di j D::L))=>Vo y n c hl O C0 F);by_cases P:n=0
 ·have G0:hl=[]:=BJ (d.symm.trans P)
  subst G0;subst P;have E:k=t:=H;subst E;have e3:e=W:=by rw[r];exact VW _
  subst e3;clear R w1;have w1:IntKind.u32.wrap e=e:=eP oM;have f:=(Z.ah 0 rfl).frozen;have K:=(Z.ah 0 rfl).cell 3;have X:=(Z.ah 0 rfl).cell 6;have G:=Z.bx 3 (iW e) #[pO j,iI U,iI (Y:Nat),iW e,iW o,iW k,.slice A 0 c];have y6:=(G.ah 0 rfl).cell 6;have N:=aa G.swap;clear h Z G z p u ha d r H Q a B0
  go_enter func229,ntmps229
  go_wp2_with fail
  clear y6 K X f;refine qK (b A _ N) λR h=>?_;have M:=h.swap;have f:=(M.ah 0 rfl).frozen;have X:=(M.ah 0 rfl).cell 6;have S:=M.bx 6 (.slice A 0 c) #[pO j,iI U,iI (Y:Nat),iW e,iW o,iW k,.slice A 0 c];exact adK
 ·have B:=g7 (l:=hl) (i:=n-1) oM
  generalize hl[n-1]' oM=x at B;obtain⟨T,cs,hA,_,A0,⟨A2,c2,rfl,H0⟩,hz,G⟩:=Z.swap.Vc dC B;subst hA;obtain⟨xe,xb⟩:=x;have E:k=xe:=by rw[H];show((hl.getLast?).map Prod.fst).getD t=xe;rw[List.getLast?_eq_getElem?,<-d,B];rfl
  subst E;obtain⟨m,hm⟩:∃m:Nat,m=n-1:=⟨_,rfl⟩;rw[<-hm]at A0;have k0:w.cell? (T.add (m*2))=some (iW k):=A0 0 _ rfl;have n1:IntKind.i64.wrap ((n:Int)-1)=(m:Int):=(IntWalk.i64_in _ oM).trans oM;have n2:(m:Int)<(n:Int):=oM
  have I0:m<n:=oM
  have n3:(0:Int)<=(m:Int):=oM
  have d0:decide ((n:Int)>0)=true:=decide_eq_true (by omega);have E0:decide (0<n)=true:=decide_eq_true (by omega);have f:=(Z.ah 0 rfl).frozen;have K:=(Z.ah 0 rfl).cell 3;have c5:=(Z.ah 0 rfl).cell 5;have X:=(Z.ah 0 rfl).cell 6;have G:=Z.bx 5 (iW k) #[pO j,iI U,iI (Y:Nat),iW W,iW o,iW k,.slice (some T) n c];have x3:=(G.ah 0 rfl).cell 3;have f2:=(G.ah 0 rfl).frozen;have M:=G.bx 3 (iW e) #[pO j,iI U,iI (Y:Nat),iW e,iW o,iW k,.slice (some T) n c];have y6:=(M.ah 0 rfl).cell 6;have N:=aa M.swap;clear h Z G M z p u ha d r H Q a B0 B A0 hz H0 hm P
  go_enter func229,ntmps229
  go_wp2_with fail
  clear y6 K c5 x3 X f f2 k0 n1 n2 I0 n3 d0 E0 w1 R;refine qK (b (some T) _ N) λR h=>?_;have M:=h.swap;have f:=(M.ah 0 rfl).frozen;have X:=(M.ah 0 rfl).cell 6;have S:=M.bx 6 (.slice (some T) 0 c) #[pO j,iI U,iI (Y:Nat),iW e,iW o,iW k,.slice (some T) 0 c];exact adK
end
section
open Go.Shelf
theorem wB{D:DS}{k:Nat}(C:dE D k){a:Int}{n:Nat}{first ep:Int}:∀(f:Nat) (low:Int) (b:List lR),(∀x∈b,x.2.length<=43/\Bytes x.2/\0<=x.1/\x.1<4294967296)->
 (nH D a n first ep f low b).length<=b.length+f/\∀x∈nH D a n first ep f low b,x.2.length<=43/\Bytes x.2/\0<=x.1/\x.1<4294967296
 |0,_,b,h=>⟨io _,h⟩
 |f+1,low,b,h=>by
  cases V:qg (kP D a n first b.length) (first+(b.length:Nat)) low ep with
  |false=>rw[vm V];exact⟨oM,h⟩
  |true=>
   rw[zY V];have B:Bytes (D.read (a+2+(first+(b.length:Nat))%(n:Nat))):=DS.fZ C.b _;have U:=iT B;have E:=mM B;have K:=wB C (a:=a) (n:=n) (first:=first) (ep:=ep) f (kP D a n first b.length).e (b++[((kP D a n first b.length).e,(kP D a n first b.length).b)]) (λx J=>by
    rcases oc.1 J with J|J
    ·exact h x J
    ·obtain rfl:=nN.1 J
     exact⟨U.2.2.2.2,E,U.2.2.1,U.2.2.2.1⟩)
   refine⟨?_,K.2⟩;have:=K.1;rw[dB]at this;simp only[qR,MJ]at this;omega
def ZB(at_:Int)(n:Nat):JM:=⟨at_,n,1,0,0,[]⟩
def bZ(D:DS)(at_:Int)(n:Nat):JM:=if j9 D at_=0 then⟨at_,n,(kO (ib D at_)).1,(mw (ib D at_)).1,(mv (ib D at_)).1,[]⟩else ZB at_ n
def tD(D:DS)(at_:Int)(n:Nat):JM:={bZ D at_ n with held:=(bZ D at_ n).scan D}
def im(D:DS)(at_:Int)(n:Nat):JM:={tD D at_ n with ep:=(bZ D at_ n).ep+1}
def Qm(D:DS)(at_:Int)(n:Nat):DS:=cG D at_ (im D at_ n).slot
structure NM(D:DS)(at_:Int)(n:Nat):Prop where
 a0:0<=at_/\at_+2+(n:Int)<=(D.n:Int)/\at_<=1000
 n0:1<=n/\n<=100
 m:j9 D at_=0->vG (ib D at_)=true
 f:0<=(bZ D at_ n).first/\(bZ D at_ n).first<=4000000000
 e:0<=(bZ D at_ n).ep/\(bZ D at_ n).ep<4294967295
 l:0<=(bZ D at_ n).low/\(bZ D at_ n).low<4294967296
 s:ic D at_ (im D at_ n).slot=0
theorem mS(D:DS)(at_:Int)(n:Nat):(bZ D at_ n).at_=at_/\(bZ D at_ n).n=n/\(bZ D at_ n).held=[]:=by
 unfold bZ
 split<;>exact⟨rfl,rfl,rfl⟩
theorem NM.metb{at_:Int}{n:Nat}(h:NM D at_ n):vV (bZ D at_ n) where
 a0:=by rw[(mS D at_ n).1];exact⟨h.a0.1,h.a0.2.2⟩
 n0:=by rw[(mS D at_ n).2.1];exact h.n0
 f0:=h.f
 e0:=by have:=h.e;omega
 l0:=h.l
 h0:=by rw[(mS D at_ n).2.2];exact iD _
 b0:=λx J=>by rw[(mS D at_ n).2.2]at J;simp at J
theorem NM.open{at_:Int}{n k:Nat}(C:dE D k)(h:NM D at_ n):vV (im D at_ n) where
 a0:=h.metb.a0
 n0:=h.metb.n0
 f0:=h.f
 e0:=by have:=h.e;show 0<=(bZ D at_ n).ep+1/\(bZ D at_ n).ep+1<_;omega
 l0:=h.l
 h0:=by
  have:=(wB C (bZ D at_ n).n (bZ D at_ n).low [] (λx J=>by simp at J) (a:=(bZ D at_ n).at_) (n:=(bZ D at_ n).n) (first:=(bZ D at_ n).first) (ep:=(bZ D at_ n).ep)).1;simp only[MJ,xS]at this;exact this
 b0:=(wB C (bZ D at_ n).n (bZ D at_ n).low [] (λx J=>by simp at J)).2
theorem Pm{I:aK}{L:List az}(u:kL I)(j P:Nat)(D:DS)(at_:Int)(n:Nat)(w:World)(C:dE D P)(E0:P<=900000)(k:NM D at_ n)(h:St I w (di j D::L)):
 Calls prog 56 #[pO j,iI at_,iI (n:Nat)] w λe O=>∃g Y,e= .returned (.tuple #[pO g,Y,iI 0])/\St I O (aG 1 dG Y (im D at_ n).all::jR g j (im D at_ n)::di j (Qm D at_ n)::L):=by
 refine bq C k λl K=>?_;have hn:=k.n0;have ha:=k.a0;have D0:=C.ok.n2;have v1:IntKind.i64.wrap (D.n-2)=D.n-2:=IntWalk.i64_in _ oM;have v2:IntKind.i64.wrap (D.n-2-(n:Int))=D.n-2-(n:Int):=IntWalk.i64_in _ oM;have d1:decide ((n:Int)<1)=false:=decide_eq_false (by omega);have d2:decide ((n:Int)>100)=false:=decide_eq_false (by omega);have A0:decide (100<n)=false:=decide_eq_false (by omega);have B0:decide (n<1)=false:=decide_eq_false (by omega);have d3:decide (at_<0)=false:=decide_eq_false (by omega);have d4:decide (at_>D.n-2-(n:Int))=false:=decide_eq_false (by omega);have C0:decide (D.n-2-(n:Int)<at_)=false:=d4;refine bq (show 0<=at_/\at_+1<(D.n:Int)by omega) h λy H=>?_;clear h C k hn ha D0
 go_enter func56,ntmps56
 go_wp2_with (go_at_call 85;refine qH (Hx H) λw1 t=>?_;clear H)
 have G:=(t.alloc 196 #[pO j,iI at_,iI (n:Nat),iW 1,iW 0,iW 0,sN]).eU 262 2 fO;have F:=(St.zX (hl:=[]) rfl G.swap).swap;obtain⟨g,T⟩:=nM (w1.heap.size);rw[<-T]at F⊢;clear v1 v2 d1 d2 A0 B0 d3 d4 C0 t T G;refine(BO u j P D at_ _ l y F).mono ?_;rintro e w2⟨A1,c1,rfl,h⟩;clear F;have N:j9 D at_=41\/j9 D at_=0:=by unfold j9;split<;>simp
 have J:=Bp l.b at_;obtain⟨o,a⟩:=nM ((bZ D at_ n).ep);have de:(o==4294967295)=false:=jM (by rw[a];have:=K.e;omega);have we:IntKind.u32.wrap (o+1)=o+1:=eP (by rw[a];have:=K.e;omega);refine bq a (λ(O:World) (E:St I O (jR g j (bZ D at_ n)::di j D::L))=>RG u g j P D (bZ D at_ n) O l K.metb (mS D at_ n).2.2 E) λb U=>?_;have B:=aa (λ(O:World) (E:St I O (jR g j (bZ D at_ n)::di j D::L))=>(by obtain⟨A,c,Z⟩:=E.jO;rw[a];exact(Z.ah 0 rfl).cell 4:O.cell? (aD g 4)=some (iW o)));rcases N with N|N
 case' inr=>
  refine nK (show bZ D at_ n=⟨at_,n,(kO (ib D at_)).1,(mw (ib D at_)).1,(mv (ib D at_)).1,[]⟩from iP N) (K.m N) (h.pk 3 [2,0,1]) J λM HM R i=>?_;rw[N];clear h N J a
  go_wp2_with (go_at_call 87;refine qK (QN g j _ _ _ _ i.2 (by have:=i.1;omega) R) λw3 h=>?_;rw[HM.out];have q:Hid (St I w3 (jR g j (bZ D at_ n)::di j D::L)):=(by rw[M.out];exact h);have Q:=B.out _ q;clear h R)
 case' inl=>
  have M:Hid (bZ D at_ n=⟨at_,n,1,0,0,[]⟩):=iN (by rw[N];decide);have q:Hid (St I w2 (jR g j (bZ D at_ n)::di j D::L)):=by rw[M.out];exact h.sub
  have Q:=B.out _ q;rw[N];clear h N J a
  go_wp2_with fail
 all_goals
  refine qK (U _ q) λw4 h=>?_;clear Q q U B;have h:St I w4 (jR g j (tD D at_ n)::di j D::L):=h;have X:im D at_ n={tD D at_ n with ep:=o+1}:=by rw[b.out];rfl
  have r:(tD D at_ n).ep=o:=b.symm;generalize tD D at_ n=JS at h X r;obtain⟨W,jn,x,d,z,hl⟩:=JS;have r:d=o:=r;subst r;obtain⟨A,c,Z⟩:=h.jO;have Q:=(Z.ah 0 rfl).cell 4;have f:=(Z.ah 0 rfl).frozen;have G:=Z.bx 4 (iW (d+1)) #[pO j,iI W,iI (jn:Nat),iW x,iW (d+1),iW z,.slice A hl.length c];have S:=aa (St.zX rfl G);have X:im D at_ n=⟨W,jn,x,d+1,z,hl⟩:=X;rw[<-X]at S;clear h Z G X;have p:=aa (mS D at_ n).1
  go_wp2_with fail
  refine qK (Fg u g j P D (im D at_ n) _ l E0 (K.open l) (by show 0<=(bZ D at_ n).at_/\(bZ D at_ n).at_+1<_;rw[p.out];exact y.out) S) λw5 h=>?_;have h:St I w5 (jR g j (im D at_ n)::di j (cG D (bZ D at_ n).at_ (im D at_ n).slot)::L):=h;rw[p.out]at h;rw[show ic D (im D at_ n).at_ (im D at_ n).slot=0 from by show ic D (bZ D at_ n).at_ _=0;rw[p.out];exact K.out.s];have V:=aa h;clear h S Q f
  go_wp2_with fail
  refine(Tu g j (im D at_ n) _ (K.open l) V).mono ?_;rintro e w6⟨Y,rfl,h⟩;have H6:=aa h;clear h V
  go_wp2_with fail
  ((try simp only[Exit.inBlock,Exit.then]);refine bodyPost_ret (jr rfl _ _ _) rfl ?_)
  exact⟨g,Y,rfl,H6⟩
end
theorem Lb{D:DS}{k:Nat}(C:dE D k)(a g l d:Int):∀(i:Nat) (out:LI),ml D a g l d i=some out->out.length<=i*43/\Bytes out
 |0,out,h=>by
  obtain rfl:[]=out:=ME h;exact⟨iD _,Bytes.nil⟩
 |i+1,out,h=>by
  have h:(ml D a g l d i).bind _=some out:=h
  cases P:ml D a g l d i with
  |none=>rw[P]at h;cases h
  |some o=>
   have K:=Lb C a g l d i o P;rw[P]at h;simp only[zc7]at h;have B:Bytes (D.read (a+2+g*21+(i:Nat))):=DS.fZ C.b _
   split at h
   ·split at h
    ·obtain rfl:=ME h
     have Z:(Sa D a g i).b.length<=43:=(iT B).2.2.2.2;exact⟨by rw[dB];omega,K.2.append (mM B)⟩
    ·cases h
   ·obtain rfl:=ME h
    exact⟨oM,K.2⟩
theorem vQ{k:Nat}(C:dE D k)(a:Int):(gg D a).length<=903/\Bytes (gg D a):=by
 unfold gg
 cases h:jk D a with
 |none=>exact⟨iD _,Bytes.nil⟩
 |some o=>
  unfold jk at h
  split at h
  ·cases h
  ·have:=Lb C _ _ _ _ 21 o h
   exact⟨this.1,this.2⟩
def mh(D:DS)(a:Int):Nat->Rg:=if ii D a=0 then(Rd.gB ⟨gg D a,false⟩ 4).1 else tv
theorem RR{k:Nat}(C:dE D k)(a:Int)(K:ii D a=0->vj (gg D a)=0):∀k,(mh D a k).ok:=by
 unfold mh
 split
 ·rename_i h
  exact(SC (bs:=gg D a) ⟨(vQ C a).2,by have:=(vQ C a).1;show(gg D a).length<=140737488355328;omega,λh=>by cases h⟩ (K h)).2
 ·exact VE
theorem Rq{I:aK}{L:List az}(A:kL I)(j P:Nat)(D:DS)(a:Int)(w:World)(C:dE D P)(T:0<=a/\a+44<=(D.n:Int))(K:ii D a=0->vj (gg D a)=0)(h:St I w (di j D::L)):
 Calls prog 55 #[pO j,iI a,iI 21] w λe O=>∃g,e= .returned (.tuple #[pO g,iI 0])/\St I O (dq g (mh D a)::di j D::L):=by
 have N:ii D a=41\/ii D a=0:=by unfold ii;split<;>simp
 refine AS (vQ C a) C T K h λV l Q y H=>?_;clear C T K h
 go_enter func55,ntmps55
 go_wp2_with fail
 refine(Rm A j P D a _ l Q H).mono ?_;rintro e z⟨d,S,rfl,h⟩;clear H;rcases N with N|N
 ·have b:Hid (mh D a=tv):=iN (by rw[N];decide)
  rw[N];have F:=aa h.tail.WO;clear h N
  go_wp2_with fail
  go_ret2
  exact⟨_,rfl,by rw[b.out];exact F.out⟩
 ·have b:Hid (mh D a=(Rd.gB ⟨gg D a,false⟩ 4).1):=iP N
  refine bq (y N) h λo F=>?_;rw[N];clear h N
  go_wp2_with fail
  refine(WL _ _ _ V.2 (by have:=V.1;omega) F).mono ?_;rintro e R⟨p,rfl,c,_,_⟩;obtain⟨g,rfl,h⟩:=c o;rw[o.out];have U:=aa h;clear h c F
  go_wp2_with fail
  go_ret2
  exact⟨g,rfl,by rw[b.out];exact U.out⟩
def gX(m:Nat->Rg)(q:List (LI)):Nat->Rg:=q.foldl (λm b=>gL m (pX b)) m
theorem DR{m:Nat->Rg}{q:List (LI)}{k:Nat}{x:LI}(h:q[k]? =some x):gX m (q.take (k+1))=gL (gX m (q.take k)) (pX x):=by
 rw[sk h];exact XI
theorem yQ:∀(q:List (LI)) (m:Nat->Rg),(∀k,(m k).ok)->(∀b∈q,Bytes b/\b.length<=43)->∀k,(gX m q k).ok
 |[],_,p,_=>p
 |b::r,m,p,B=>yQ r (gL m (pX b)) (Aw p (Ln ⟨(B b abN).1,by have:=(B b abN).2;show b.length<=140737488355328;omega,λh=>by cases h⟩)) (λx J=>B x (Bd _ J))
theorem Om{I:aK}{L:List az}(g:Nat)(m:Nat->Rg)(v:Value)(q:List (LI))(w:World)(p:∀k,(m k).ok)(hl:q.length<=100)(K:∀b∈q,Bytes b/\b.length<=43)(hd:∀b∈q,nX b=0)(h:St I w (aG 1 dG v q::dq g m::L)):
 Rt I w 57 #[pO g,v] (iI 0) (dq g (gX m q)::L):=by
 obtain⟨A,B0,rfl,hc,F0⟩:=(h.eM 0 rfl).slice;generalize hn:q.length=n at*;refine ye hn K hd p (λk=>yQ (q.take k) m p (λb J=>K b (TH J))) h λR HB A0 HM HR H=>?_;clear hn h K hd p
 go_enter func57,ntmps57
 go_wp2_with fail
 go_loopg [15] n (λU i wr=>∃k,U=n-k/\k<=n/\i= iI (k:Nat)/\St I wr (aG 1 dG (.slice A n B0) q::dq g m::L))
 case atStart=>exact aeN
 case round=>
  obtain⟨k,C,Q,rfl,h⟩:=hrel;have a:=aa C;clear C H;by_cases t:k<n
  ·have J:=g7 (l:=q) (i:=k) (by rw[R.out];exact t)
   generalize q[k]'(by rw[R.out];exact t)=x at J;obtain⟨T,cs,rfl,_,B,⟨vb,rfl,c⟩,Z⟩:=h.elem 0 rfl J;obtain⟨P,y,rfl,o,W,u⟩:=c;have M:wr.cell? (T.add k)=some (.slice P x.length y):=by simpa[Addr.add]using B 0 _ rfl
   refine bq (HB x (qP J)) (A0 x (qP J)) λD E=>?_;have F:=aa (Z.bC (R':=λO=>ay O .u8 (.slice P x.length y) x) (λO z=>by obtain⟨_,v9,G,z⟩:=z;injection G with G _;rw[G];exact z));generalize d:x.length=nx at*;have X:=aa d;clear J B h u Z d o W
   go_wp2_with fail
   refine(wg _ x _ D.1 (by rw[X.out];have:=D.2;omega) F).mono ?_;rintro e w2⟨Y,V,S,rfl,h⟩;rw[E.out];have N:=aa h.tail;clear h M F
   go_wp2_with fail
   go_roundg (n-(k+1))
   case measure=>exact adI
   case rel=>exact⟨k+1,rfl,oM,by go_num,N.oH _⟩
  ·obtain rfl:k=n:=oM
   have H:=aa h;clear h Q t a
   go_wp2_with fail
   go_loopg [29] k (λU i wr=>∃j,U=k-j/\j<=k/\i= iI (j:Nat)/\St I wr (aG 1 dG (.slice A k B0) q::dq g (gX m (q.take j))::L))
   case atStart=>exact aeN
   case round=>
    obtain⟨j,C,Q,rfl,h⟩:=hrel;have a:=aa C;clear C H;by_cases t:j<k
    ·have J:=g7 (l:=q) (i:=j) (by rw[R.out];exact t)
     generalize q[j]'(by rw[R.out];exact t)=x at J;obtain⟨T,cs,rfl,_,B,⟨vb,rfl,c⟩,Z⟩:=h.elem 0 rfl J;obtain⟨P,y,rfl,o,W,u⟩:=c;have M:wr.cell? (T.add j)=some (.slice P x.length y):=by simpa[Addr.add]using B 0 _ rfl
     refine nK (HB x (qP J)) (A0 x (qP J)) (DR (m:=m) J) (HR j) λD E E0 D0=>?_;have F:=aa (Z.bC (R':=λO=>ay O .u8 (.slice P x.length y) x) (λO z=>by obtain⟨_,v9,G,z⟩:=z;injection G with G _;rw[G];exact z));generalize d:x.length=nx at*;have X:=aa d;clear J B h u Z d o W;have C0:=aa (Ln (bs:=x) ⟨D.1,by show x.length<=140737488355328;rw[X.out];have:=D.2;omega,λh=>by cases h⟩)
     go_wp2_with fail
     refine(wg _ x _ D.1 (by rw[X.out];have:=D.2;omega) F).mono ?_;rintro e w2⟨Y,V,S,rfl,h⟩;rw[E.out];generalize pX x=r at*;have N:=aa ((h.alloc 175 #[iI r.op,iI r.region,iI r.index,iU r.token,iW r.seq,.slice Y V S]).pk 4 [1,3,2,0]);obtain⟨e0,e1,e2,e3,e4,e5⟩:=(N.ah 3 rfl).ng;clear h M F
     go_wp2_with fail
     refine(PI g _ r Y V S _ C0 D0 N).mono ?_;rintro e w3⟨vs,rfl,h⟩;rw[<-E0.out]at h;have H3:=aa (h.pk 4 [2,1]);clear h N e0 e1 e2 e3 e4 e5
     go_wp2_with fail
     go_roundg (k-(j+1))
     case measure=>exact adI
     case rel=>exact⟨j+1,rfl,oM,by go_num,H3⟩
    ·obtain rfl:j=k:=oM
     rw[oJ (by rw[R.out];exact io _)]at h;have H:=aa h.tail;clear h Q t a
     exact adb
def j6(D:DS)(a:Int)(ring:Nat):JM:=im D (a+44) ring
def lK(D:DS)(a:Int)(ring:Nat):DS:=Qm D (a+44) ring
def mx(D:DS)(a:Int)(ring:Nat):Nat->Rg:=gX (mh D a) (j6 D a ring).all
structure yK(D:DS)(a:Int)(ring:Nat):Prop where
 a0:0<=a/\a+44<=(D.n:Int)
 u:ii D a=0->vj (gg D a)=0
 j:NM D (a+44) ring
 d:∀b∈(j6 D a ring).all,nX b=0
theorem yK.bs{ring k:Nat}(C:dE D k)(h:yK D a ring):∀b∈(j6 D a ring).all,Bytes b/\b.length<=43:=by
 intro b B;obtain⟨x,J,rfl⟩:=um.1 B;have:=(h.j.open C).b0 x J;exact⟨this.2.1,this.1⟩
abbrev il(j W t:Nat)(a:Int)(ring:Nat)(k:Bool):Vq:= #[pO j,pO W,pO t,iI a,iI 21,iI (ring:Nat),.bool k]
theorem FQ{I:aK}{L:List az}(A:kL I)(j P:Nat)(D:DS)(a:Int)(ring:Nat)(w:World)(C:dE D P)(r:P<=900000)(k:yK D a ring)(h:St I w (di j D::L)):
 Calls prog 33 #[pO j,iI a,iI 21,iI (ring:Nat)] w λe O=>∃E W t,e= .returned (.tuple #[pO E,iI 0])/\St I O (ab E 151 (il j W t a ring false)::jR W j (j6 D a ring)::dq t (mx D a ring)::di j (lK D a ring)::L):=by
 refine bq C k λl K=>?_;have d:=k.a0;have Z:=k.j.a0;have u:IntKind.i64.wrap (a+2)=a+2:=IntWalk.i64_in _ oM;have y:IntKind.i64.wrap (a+2+42)=a+44:=(IntWalk.i64_in _ oM).trans oM;have H:=aa h;clear h C k d Z
 go_enter func33,ntmps33
 go_wp2_with fail
 refine(Rq A j P D a _ l K.a0 K.u H).mono ?_;rintro e z⟨t,rfl,h⟩;have F:=aa h.swap;clear h H
 go_wp2_with fail
 refine(Pm A j P D (a+44) ring _ l r K.j F).mono ?_;rintro e R⟨W,G,rfl,h⟩;have h:St I R (aG 1 dG G (j6 D a ring).all::jR W j (j6 D a ring)::di j (lK D a ring)::dq t (mh D a)::L):=h;have N:=aa (h.pk 4 [0,3,1,2]);clear h F
 go_wp2_with fail
 refine qK (Om t _ G _ _ (RR l a K.u) (by have Z:=(K.j.open l).h0;have J:=(K.j.open l).n0;show(List.map _ _).length<=100;rw[qI];exact qJ Z J.2) (K.bs l) K.d N) λY h=>?_;have h:St I Y (dq t (mx D a ring)::jR W j (j6 D a ring)::di j (lK D a ring)::L):=h;have q:=aa ((h.alloc 151 (il j W t a ring false)).pk 3 [0,2,1]);clear h N
 go_wp2_with fail
 go_ret2
 exact⟨_,W,t,rfl,q⟩
theorem tL{E j W t:Nat}{ring:Nat}{k:Bool}{w:World}(h:eK w E 151 (il j W t a ring k)):
 w.cell? (aD E 0)=some (pO j)/\w.cell? (aD E 1)=some (pO W)/\w.cell? (aD E 2)=some (pO t)/\w.cell? (aD E 3)=some (iI a)/\w.cell? (aD E 4)=some (iI 21)/\w.cell? (aD E 5)=some (iI (ring:Nat))/\w.cell? (aD E 6)=some (.bool k):=
 ⟨h.cell 0,h.cell 1,h.cell 2,h.cell 3,h.cell 4,h.cell 5,h.cell 6⟩
theorem RH(E j W t:Nat)(a:Int)(ring:Nat)(k:Bool)(w:World)(h:eK w E 151 (il j W t a ring k)):
 Calls prog 46 #[pO E] w λe O=>e= .returned (pO t)/\O=w:=by
 have P:=h.cell 2;clear h
 go_enter func46,ntmps46
 exact afs
theorem Pz{I:aK}{L:List az}(E j W t ge n:Nat)(a:Int)(ring:Nat)(k:Bool)(v:Int)(u:FrameMode)(w:World)(h:St I w (ab E 151 (il j W t a ring k)::ab ge 32 #[iI v]::ab n 118 #[pO E]::L)):
 CallsD prog 227 #[pO ge,pO n] u w λe b O=>b=u/\(e= .returned (.tuple #[])/\St I O (ab E 151 (il j W t a ring (v==43))::ab ge 32 #[iI v]::ab n 118 #[pO E]::L)):=by
 have Y:=(h.ah 0 rfl).cell 6;have f:=(h.ah 0 rfl).frozen;have S:=(h.ah 1 rfl).cell 0;have K:=(h.ah 2 rfl).cell 0;have H:=aa (h.bx 6 (.bool (v==43)) (il j W t a ring (v==43)));clear h
 go_enter_d func227,ntmps227
 exact aey
def Vb(M:Nat->Rg)(D:DS)(a:Int):Int:=qi D a (bi M)
def OS(M:Nat->Rg)(D:DS)(a:Int):DS:=fH D a (bi M)
def Ag(M:Nat->Rg)(D:DS)(J:JM)(a:Int):Int:=if Vb M D a=0 then ic (OS M D a) J.at_ J.trim.slot else Vb M D a
def uA(M:Nat->Rg)(D:DS)(J:JM)(a:Int):DS:=if Vb M D a=0 then cG (OS M D a) J.at_ J.trim.slot else OS M D a
def Bx(M:Nat->Rg)(D:DS)(J:JM)(a:Int):JM:=if Vb M D a=0 then J.trim else J
structure Xt(M:Nat->Rg):Prop where
 ok:∀k,(M k).ok
 pl:(bi M).length<=903
 pb:Bytes (bi M)
theorem YN{I:aK}{L:List az}(hT:kL I)(E j W t P:Nat)(a:Int)(ring:Nat)(M:Nat->Rg)(D:DS)(J:JM)(w:World)(C:dE D P)(P0:P<=800000)(S:Xt M)(z:vV J)(hf:J.first+(J.held.length:Nat)<=4000000000)(ha:0<=a/\a+44<=(D.n:Int))(hj:0<=J.at_/\J.at_+1<(D.n:Int))
 (h:St I w (ab E 151 (il j W t a ring false)::jR W j J::dq t M::di j D::L)):
 Rt I w 218 #[pO E] (iI (Ag M D J a)) (ab E 151 (il j W t a ring (Ag M D J a==43))::jR W j (Bx M D J a)::dq t M::di j (uA M D J a)::L):=by
 have Q0:∀(fn:Fn) (first cap:Vq) (w:World),(Instr.makeFunc fn first cap).run prog w= .ok (.func fn first cap) w:=λ_ _ _ _=>rfl;have Z:=(h.alloc 118 #[pO E]).alloc 32 #[iI 0];simp only[World.size_alloc]at Z;obtain⟨_,_,_,_,_,_,c6⟩:=tL (Z.ah 2 rfl);refine AS C S z ha (Gg a C S.pb S.pl) λHD B HJ HA K=>?_;have HT:=aa (λ(Q:DS) (U:Nat) (L':List az) (B0:World) (N0:dE Q U) (O0:U<=900000) (hn:Q.n=D.n) (h':St I B0 (jR W j J::di j Q::L'))=>RB hT W j U Q J J.held.length B0 rfl N0 O0 z hf (by rw[hn];exact hj) h');have F:=aa Z;obtain⟨n,X⟩:=nM (w.heap.size);rw[<-X]at F;have E0:=aa X;clear h Z C S z hf ha hj X
 go_enter_defers func218,ntmps218
 go_wp2_with fail
 rw[<-E0.out];obtain⟨ge,D0⟩:=nM (n+1);rw[<-D0]at F⊢;obtain⟨c,x⟩:=nM (bi M);obtain⟨k,G⟩:=nM (qi D a c);obtain⟨l,V⟩:=nM (fH D a c);have i:=aa (show Vb M D a=k by rw[G,x];rfl);have r:=aa (show OS M D a=l by rw[V,x];rfl);have H0:=aa (show c.length<=903 by rw[x];exact B.pl);have F0:=aa (show Bytes c by rw[x];exact B.pb);rw[<-x,<-V]at K;refine iG x G V λG0 M0 K0=>?_;have h0:=F.pk 6 [2,1,4,5,0,3];clear F D0 x G V c6;refine an (I:=I) (L0:=ab ge 32 #[iI 0]::jR W j J::L) [⟨none,none,λe=>ab E 151 (il j W t a ring false)⟩,⟨none,none,λe=>ab n 118 #[pO E]⟩,⟨none,none,λe=>dq t M⟩,⟨none,some 17,λe=>di j D⟩,⟨some 16,some 17,λe=>ai .u8 (.slice (e 16).A c.length (e 16).n) c⟩,⟨some 17,none,λe=>di j l⟩] [[],[0],[0,1],rG 3,[],[4],[4,5],[4,5,6],[],[8],[8,9],[8,9,10],[],[12],[12,13],[12,13,14],[12,13,14,15],rG 17,rG 18] (rG 19) rfl kR kR kR (by rfl) (λ_=>rfl) h0.fk ?_;refine ZE ?_;refine bp 13 (λe=> #[pO t]) (λe=> .slice (e 16).A c.length (e 16).n) rfl (λe R O h=>by(
  have h:=h.fn;refine(DG t M _ B.ok (h.fi 2)).mono ?_;rintro u wy⟨v,rfl,Z⟩;obtain⟨A',c',rfl⟩:=Z.slice;have h2:=Z.ints;rw[<-G0.out]at h2⊢;exact⟨⟨A',c',default⟩,rfl,h2.pk 5 [2,3,1,4,0]⟩)) ?_
 simp only[aW];refine bp 228 (λe=> #[pO j,iI a,iI 21,.slice (e 16).A c.length (e 16).n]) (λe=> iI k) rfl (λe R O h=>by(
  have h:=h.fn;refine(Qs hT j P D a (e 16).A c.length (e 16).n c _ HD P0 HA H0 F0 ((h.fi 4).fi 4)).mono ?_;rintro u wy⟨rfl,Z⟩;rw[<-K0.out]at Z;rw[<-M0.out];exact⟨⟨none,0,default⟩,rfl,Z.pk 4 [1,2,3,0]⟩)) ?_
 simp only[aW];refine nL ?_;refine aA ?_;intro e w1 h;have h:=h.fn;obtain⟨A0,y⟩:∃A0,(e 16).A=A0:=⟨_,rfl⟩;obtain⟨C0,N⟩:∃C0,(e 16).n=C0:=⟨_,rfl⟩;have q:=aa (h.pk 6 [0,1,5,3,4,2]);clear h h0;by_cases o:k=0
 case neg=>
  have d0:(k !=0)=true:=by simpa using o
  have f:=(q.ah 4 rfl).frozen;have x0:=(q.ah 4 rfl).cell 0;have h5:=(q.fi 4).bx 0 (iI k) #[iI k];have b:=aa (λu=>Pz E j W t ge n a ring false k u _ (h5.pk 2 [1,0]));have p:Hid (Ag M D J a=k):=(iN (by rw[i.out];exact o)).trans i;have g:Hid (uA M D J a=l):=(iN (by rw[i.out];exact o)).trans r;have Y:Hid (Bx M D J a=J):=iN (by rw[i.out];exact o);clear o h5
  go_wp2_with fail
  rw[y,N];clear y N
  go_wp2_with fail
  refine leaves_cons (f:=227) (args:= #[pO ge,pO n]) abN acG ?_;refine(b _).mono ?_;rintro e u' w9⟨rfl,rfl,h⟩;have y0:=(h.ah 1 rfl).cell 0;refine⟨iI k,aL rfl _ rfl ?_,by rw[p.out];try rfl,?_⟩
  ·go_simp
  ·rw[p.out,g.out,Y.out]
   exact h.sub
 case pos=>
  obtain⟨d,H⟩:=nM (ic l J.at_ J.trim.slot);obtain⟨sd,A⟩:=nM (cG l J.at_ J.trim.slot);have T:=i.trans o;refine AS (show Ag M D J a=d from(iP T).trans (by rw[H,r.out])) (show uA M D J a=sd from(iP T).trans (by rw[A,r.out])) (show Bx M D J a=J.trim from iP T) H A λp g Y J0 I0=>?_;subst o;clear H A T
  go_wp2_with fail
  rw[y,N];clear y N
  go_wp2_with fail
  refine an (I:=I) (L0:=dq t M::L) [⟨none,none,λe=>ab E 151 (il j W t a ring false)⟩,⟨none,none,λe=>ab n 118 #[pO E]⟩,⟨none,some 9,λe=>jR W j J⟩,⟨none,some 9,λe=>di j l⟩,⟨none,some 10,λe=>ab ge 32 #[iI 0]⟩,⟨some 9,none,λe=>jR W j J.trim⟩,⟨some 9,none,λe=>di j sd⟩,⟨some 10,none,λe=>ab ge 32 #[iI d]⟩] [[],[0],[0,1],rG 3,[],[4],[4,5],[4,5,6],[4,5,6,7],rG 9,rG 10] (rG 11) rfl kR kR kR (by rfl) (λ_=>rfl) q.fk ?_;refine RU ?_;refine bp 217 (λe=> #[pO W]) (λe=> iI (J.held.length:Nat)) rfl (λe R O h=>by(
   have h:=h.fn;refine(KB W j J _ (h.fi 2)).mono ?_;rintro u wy⟨rfl,Z⟩;exact⟨⟨none,0,default⟩,rfl,Z.pk 3 [1,2,0]⟩)) ?_
  simp only[aW];refine bp 229 (λe=> #[pO W,iI (J.held.length:Nat)]) (λe=> iI d) rfl (λe R O h=>by(
   have h:=h.fn;refine(HT l (P+22) _ _ K.1 oM K.2 ((h.fi 3).fi 3)).mono ?_;rintro u wy⟨rfl,Z⟩;rw[<-I0.out]at Z;rw[<-J0.out];exact⟨⟨none,0,default⟩,rfl,Z.pk 5 [2,3,4,0,1]⟩)) ?_
  simp only[aW];refine lM (λe=> pO ge) (λe=> iI d) rfl rfl (λe R O h=>by(
   have h:=h.fn;have x0:=(h.ah 2 rfl).cell 0;have f:=(h.ah 2 rfl).frozen;have Z:=(h.fi 2).bx 0 (iI d) #[iI d];exact⟨_,gS,Z.fk⟩)) ?_
  simp only[Act.put];refine aA ?_;intro e w1 h;have h:=h.fn;have b:=aa (λu=>Pz E j W t ge n a ring false d u _ (h.pk 5 [0,4,1,2,3]));clear h q
  go_wp2_with fail
  refine leaves_cons (f:=227) (args:= #[pO ge,pO n]) abN acG ?_;refine(b _).mono ?_;rintro e u' w9⟨rfl,rfl,h⟩;have y0:=(h.ah 1 rfl).cell 0;refine⟨iI d,aL rfl _ rfl ?_,by rw[p.out];try rfl,?_⟩
  ·go_simp
  ·rw[p.out,g.out,Y.out]
   exact h.sub
theorem JM.pR(J:JM):Bytes J.slot:=((cd _ _).append (cd _ _)).append (cd _ _)
theorem PA{M:Nat->Rg}{k:Nat}(C:dE D k)(e:Xt M):dE (uA M D J a) (k+23)/\(uA M D J a).n=D.n:=by
 have h:=Gg a C e.pb e.pl;unfold uA OS
 split
 ·exact⟨h.1.save _ (JM.pR _),by rw[Lr];exact h.2⟩
 ·exact⟨h.1.mono oM,h.2⟩
theorem QK{M:Nat->Rg}(h:Ag M D J a=0):Bx M D J a=J.trim:=by
 unfold Ag at h;unfold Bx
 split at h
 ·rename_i o;exact iP o
 ·rename_i o;exact absurd h o
def AC(M:Nat->Rg)(D:DS)(J:JM)(a:Int)(ring:Nat):DS:=if ring<=J.held.length then uA M D J a else D
def AX(M:Nat->Rg)(D:DS)(J:JM)(a:Int)(ring:Nat):JM:=if ring<=J.held.length then Bx M D J a else J
def vO(M:Nat->Rg)(D:DS)(J:JM)(a:Int)(ring:Nat):Int:=if ring<=J.held.length then Ag M D J a else 0
def si(D:DS)(J:JM)(b:LI):DS:=if J.wO D b=0 then(J.CM D b).sync else J.CM D b
def CS(D:DS)(J:JM)(b:LI):Int:=if(si D J b).down=true then 43 else J.wO D b
def Ry(M:Nat->Rg)(D:DS)(J:JM)(a:Int)(ring:Nat)(b:LI):Int:=if vO M D J a ring=0 then CS (AC M D J a ring) (AX M D J a ring) b else vO M D J a ring
def Kz(M:Nat->Rg)(D:DS)(J:JM)(a:Int)(ring:Nat)(b:LI):DS:=if vO M D J a ring=0 then si (AC M D J a ring) (AX M D J a ring) b else AC M D J a ring
def OE(M:Nat->Rg)(D:DS)(J:JM)(a:Int)(ring:Nat)(b:LI):JM:=if vO M D J a ring=0 then(AX M D J a ring).oN b else AX M D J a ring
def Ou(M:Nat->Rg)(D:DS)(J:JM)(a:Int)(ring:Nat)(b:LI):Bool:=if vO M D J a ring=0 then(si (AC M D J a ring) (AX M D J a ring) b).down else vO M D J a ring==43
theorem yj{I:aK}{L:List az}(E j W t ge n:Nat)(a:Int)(ring:Nat)(D:DS)(v:Int)(u:FrameMode)(w:World)(h:St I w (ab E 151 (il j W t a ring false)::ab ge 32 #[iI v]::ab n 118 #[pO E]::di j D::L)):
 CallsD prog 219 #[pO n,pO ge] u w λe b O=>b=u/\(e= .returned (.tuple #[])/\St I O (ab E 151 (il j W t a ring D.down)::ab ge 32 #[iI (if D.down=true then 43 else v)]::ab n 118 #[pO E]::di j D::L)):=by
 obtain⟨l,_,_,_,_,_,_⟩:=tL (h.ah 0 rfl);have X:=(h.ah 2 rfl).cell 0;have H:=aa (h.pk 4 [3,0,1,2]);clear h
 cases y:D.down with
 |true=>
  go_enter_d func219,ntmps219
  go_wp2_with (go_at_call 119;refine qK (yq H) λz h=>?_;rw[y];clear l X H;obtain⟨_,_,_,_,_,_,Y⟩:=tL (h.ah 1 rfl);have f6:=(h.ah 1 rfl).frozen;have C:=(h.ah 2 rfl).cell 0;have f0:=(h.ah 2 rfl).frozen;have X:=(h.ah 3 rfl).cell 0;have G:=(h.fi 2).bx 0 (iI 43) #[iI 43];obtain⟨_,_,_,_,_,_,F⟩:=tL (G.ah 2 rfl);have K:=aa ((G.fi 2).bx 6 (.bool true) (il j W t a ring true));clear h G)
  go_end0
  exact⟨rfl,K.sub⟩
 |false=>
  go_enter_d func219,ntmps219
  go_wp2_with (go_at_call 119;refine qK (yq H) λz h=>?_;rw[y];have K:=aa h;clear l X H h)
  go_end0
  exact⟨rfl,K.sub⟩
theorem Hv{k:Nat}(C:dE D k)(B:Bytes b):dE (J.CM D b) (k+1)/\(J.CM D b).n=D.n:=⟨C.write _ (eA _ _ B),DS.zB _ _ _⟩
theorem Wl{I:aK}{L:List az}(hT:kL I)(P j W Y kk:Nat)(a:Int)(ring:Nat)(M:Nat->Rg)(D:DS)(J:JM)(r:RQ)(A1:OA)(n1 c1:Nat)(w:World)(hD:dE D kk)(B1:kk<=700000)(hM:Xt M)(hJ:vV J)(hf:J.first+(J.held.length:Nat)<=4000000000)(ha:0<=a/\a+44<=(D.n:Int))(hj:0<=J.at_/\J.at_+1<(D.n:Int))(V0:r.ok)(hg:J.n=ring)(hb:Bytes (aZ r))(hl:(aZ r).length<=43)
 (h:St I w (ai .u8 (.slice A1 n1 c1) r.data::ab P 151 (il j W Y a ring false)::jR W j J::dq Y M::di j D::L)):
 Rt I w 202 #[pO P,nv r (.slice A1 n1 c1)] (iI (Ry M D J a ring (aZ r))) (ab P 151 (il j W Y a ring (Ou M D J a ring (aZ r)))::jR W j (OE M D J a ring (aZ r))::dq Y M::di j (Kz M D J a ring (aZ r))::L):=by
 have C1:∀(fn:Fn) (first cap:Vq) (w:World),(Instr.makeFunc fn first cap).run prog w= .ok (.func fn first cap) w:=λ_ _ _ _=>rfl;have h1:=((h.alloc 118 #[pO P]).alloc 175 #[iI r.op,iI r.region,iI r.index,iU r.token,iW r.seq,.slice A1 n1 c1]).alloc 32 #[iI 0];simp only[World.size_alloc]at h1;obtain⟨n,U0⟩:=nM (w.heap.size);rw[<-U0]at h1;refine ye U0 h1 hD hM hJ ha λZ0 H1 HD HM HJ HA=>?_;refine ye hj hf V0 hb hl hg λY0 HF HR HB HL HG=>?_;clear h h1 hD hM hJ hf ha hj V0 hb hl hg U0
 go_enter_defers func202,ntmps202
 go_wp2_with fail
 rw[<-Z0.out];obtain⟨gr,X0⟩:=nM (n+1);obtain⟨ge,W0⟩:=nM (n+1+1);rw[<-W0,<-X0]at H1⊢;have h0:=H1.pk 6 [4,2,5,1,0,3];clear H1 W0 X0;refine an (I:=I) (L0:=ab gr 175 #[iI r.op,iI r.region,iI r.index,iU r.token,iW r.seq,.slice A1 n1 c1]::ab ge 32 #[iI 0]::ai .u8 (.slice A1 n1 c1) r.data::dq Y M::di j D::L) [⟨none,none,λe=>ab P 151 (il j W Y a ring false)⟩,⟨none,none,λe=>ab n 118 #[pO P]⟩,⟨none,none,λe=>jR W j J⟩] [[],[0],[0,1],rG 3,rG 4,[],[5],[5,6],[5,6,7],rG 9] (rG 10) rfl kR kR kR (by rfl) (λ_=>rfl) h0.fk ?_;refine Ed ?_;refine bp 217 (λe=> #[pO W]) (λe=> iI (J.held.length:Nat)) rfl (λe wx Lx h=>by(
  have h:=h.fn;refine(KB W j J _ (h.fi 2)).mono ?_;rintro C0 wy⟨rfl,h1⟩;exact⟨⟨none,0,default⟩,rfl,h1.pk 3 [1,2,0]⟩)) ?_
 simp only[aW];refine sW ?_;refine aA ?_;intro e w1 h;have h:=h.fn;have H2:=aa (h.pk 8 [0,2,6,7,1,3,4,5]);clear h h0;by_cases hc:ring<=J.held.length
 case pos=>
  have d0:decide ((ring:Int)<=(J.held.length:Int))=true:=decide_eq_true (by omega);have E0:decide (ring<=J.held.length)=true:=dZ hc;have O0:decide (J.held.length≥ring)=true:=E0;have K:=(H2.ah 4 rfl).cell 0;have P0:=aa hc;clear hc
  go_wp2_with fail
  refine qK (YN hT P j W Y kk a ring M D J _ HD oM HM HJ HF HA Y0 H2) λw3 h=>?_;clear d0 E0 O0 K;refine iG (show vO M D J a ring=Ag M D J a from iP P0) (show AX M D J a ring=Bx M D J a from iP P0) (show AC M D J a ring=uA M D J a from iP P0) λH0 U B0=>?_;by_cases o:Ag M D J a=0
  case neg=>
   have B:¬vO M D J a ring=0:=by rw[H0.out];exact o
   refine nK (show Ry M D J a ring (aZ r)=Ag M D J a from(iN B).trans H0) (show Kz M D J a ring (aZ r)=uA M D J a from(iN B).trans B0) (show OE M D J a ring (aZ r)=Bx M D J a from(iN B).trans U) (show Ou M D J a ring (aZ r)=(Ag M D J a==43)from(iN B).trans (by rw[H0.out])) λN l S Z=>?_;have d1:(Ag M D J a !=0)=true:=by simpa using o
   clear o B;generalize Ag M D J a=e1 at*;have C:=(h.ah 6 rfl).cell 0;have p:=(h.ah 6 rfl).frozen;have u:=(h.fi 6).bx 0 (iI e1) #[iI e1];have d:=aa u;clear h u H2
   go_wp2_with fail
   have y0:=(d.ah 0 rfl).cell 0;refine⟨iI e1,aL rfl _ rfl ?_,by rw[N.out];try rfl,?_⟩
   ·go_simp
   ·rw[Z.out,S.out,l.out]
    exact d.sub
  case pos=>
   have B:vO M D J a ring=0:=by rw[H0.out];exact o
   obtain⟨y,X⟩:∃x,x=AC M D J a ring:=⟨_,rfl⟩;obtain⟨k,G⟩:∃x,x=AX M D J a ring:=⟨_,rfl⟩;rw[<-B0.out,<-U.out,<-X,<-G,o]at h;rw[show((0:Int)==43)=false from rfl]at h;rw[o];have T0:k=J.trim:=by rw[G,U.out];exact QK o
   have K0:Hid (dE y (kk+23)):=by rw[X,B0.out];exact(PA HD HM).1
   have Q0:Hid (vV k):=by rw[T0];exact HJ.trim HF
   have R0:Hid (k.held.length<k.n):=by rw[T0];exact(show 0<J.n from HJ.n0.1)
   refine AS (show Ry M D J a ring (aZ r)=CS y k (aZ r)from(iP B).trans (by rw[<-X,<-G])) (show Kz M D J a ring (aZ r)=si y k (aZ r)from(iP B).trans (by rw[<-X,<-G])) (show OE M D J a ring (aZ r)=k.oN (aZ r)from(iP B).trans (by rw[<-G])) (show Ou M D J a ring (aZ r)=(si y k (aZ r)).down from(iP B).trans (by rw[<-X,<-G])) (h.pk 8 [7,0,4,1,2,3,5,6]) λG0 F0 I0 J0 g=>?_;clear h o B T0 H2 X G H0 U B0;exact ac1
 case neg=>
  have d0:decide ((ring:Int)<=(J.held.length:Int))=false:=decide_eq_false (by omega);have E0:decide (ring<=J.held.length)=false:=dQ hc;have O0:decide (J.held.length≥ring)=false:=E0;have B:vO M D J a ring=0:=iN hc;obtain⟨y,X⟩:∃x,x=AC M D J a ring:=⟨_,rfl⟩;obtain⟨k,G⟩:∃x,x=AX M D J a ring:=⟨_,rfl⟩;have B0:y=D:=X.trans (iN hc);have U:k=J:=G.trans (iN hc);refine nK (show Ry M D J a ring (aZ r)=CS y k (aZ r)from(iP B).trans (by rw[<-X,<-G])) (show Kz M D J a ring (aZ r)=si y k (aZ r)from(iP B).trans (by rw[<-X,<-G])) (show OE M D J a ring (aZ r)=k.oN (aZ r)from(iP B).trans (by rw[<-G])) (show Ou M D J a ring (aZ r)=(si y k (aZ r)).down from(iP B).trans (by rw[<-X,<-G])) λG0 F0 I0 J0=>?_;have K0:Hid (dE y (kk+23)):=by rw[B0];exact HD.mono oM
  have Q0:Hid (vV k):=by rw[U];exact HJ.out
  have R0:Hid (k.held.length<k.n):=by rw[U];show _<_;rw[HG.out];omega
  have g:=aa (H2.pk 8 [7,0,4,1,2,3,5,6]);rw[<-B0,<-U]at g;clear B H2 X G U B0;exact ac1
structure SM where
 M:Nat->Rg
 D:DS
 J:JM
 dn:Bool
def SM.lg(s:SM)(r:RQ):Bool:= !s.dn&&(aE s.M r).2==0&&(aE s.M r).1
def SM.Is(s:SM)(a:Int)(ring:Nat)(r:RQ):Int:=if s.lg r=true then Ry s.M s.D s.J a ring (aZ r)else 0
def SM.mB(s:SM)(a:Int)(ring:Nat)(r:RQ):Int:=if s.dn=true then 43 else if s.Is a ring r=0 then(aE s.M r).2 else s.Is a ring r
def SM.AY(s:SM)(a:Int)(ring:Nat)(r:RQ):SM:=if s.lg r=true then⟨s.M,Kz s.M s.D s.J a ring (aZ r),OE s.M s.D s.J a ring (aZ r),Ou s.M s.D s.J a ring (aZ r)⟩else s
def SM.jX(s:SM)(a:Int)(ring:Nat)(r:RQ):SM:=if s.mB a ring r=0 then{s.AY a ring r with M:=gL s.M r}else s.AY a ring r
def SM.mu(s:SM)(a:Int)(ring:Nat)(r:RQ):List (LI):=if s.mB a ring r=0 then Go.Proofs.YtblpaldggenbaaaGreatDoor.mu s.M r else []
structure Xr(s:SM)(a:Int)(ring kk:Nat):Prop where
 d:dE s.D kk
 m:Xt s.M
 j:vV s.J
 f:s.J.first+(s.J.held.length:Nat)<=4000000000
 a0:0<=a/\a+44<=(s.D.n:Int)
 j0:0<=s.J.at_/\s.J.at_+1<(s.D.n:Int)
 g:s.J.n=ring
def eJ(E j W t:Nat)(a:Int)(ring:Nat)(s:SM)(L:List az):List az:=ab E 151 (il j W t a ring s.dn)::jR W j s.J::dq t s.M::di j s.D::L
theorem St.tA{I:aK}{w:World}{L:List az}(h:St I w L):St I w (aG 1 dG sN []::L):=
 St.eu (f:=λb=>bj (λw=>cn w 1 dG sN b [])) (λ_=>[]) (h.bH (λ_w' _=>cn.none_ _ _ _ _))
theorem Wv{I:aK}{L:List az}(hT:kL I)(E j W t b:Nat)(a:Int)(ring:Nat)(s:SM)(r:RQ)(d:OA)(C S:Nat)(w:World)(J0:b<=700000)(hS:Xr s a ring b)(A0:r.ok)(hb:Bytes (aZ r))(hl:(aZ r).length<=43)
 (h:St I w (ai .u8 (.slice d C S) r.data::eJ E j W t a ring s L)):
 Calls prog 169 #[pO E,nv r (.slice d C S)] w λe I0=>∃Z,e= .returned (.tuple #[Z,iI (s.mB a ring r)])/\St I I0 (aG 1 dG Z (s.mu a ring r)::eJ E j W t a ring (s.jX a ring r) L):=by
 obtain⟨M,D,J,dn⟩:=s;have D0:C=r.data.length:=(h.get 0 rfl).sl.1;have H0:=aa D0;have h:St I w (ai .u8 (.slice d C S) r.data::ab E 151 (il j W t a ring dn)::jR W j J::dq t M::di j D::L):=h;have G:=h.alloc 175 #[iI r.op,iI r.region,iI r.index,iU r.token,iW r.seq,.slice d C S];obtain⟨_,_,_,_,_,_,x6⟩:=tL (G.ah 2 rfl);obtain⟨k,H⟩:=nM (w.heap.size);rw[<-H]at G;have G:=G.pk 5 [2,0,4,1,3];have G0:=aa H;have z:=G;refine nK hS A0 hb hl λY F HB HL=>?_;clear h G hS A0 hb hl H D0
 cases dn with
 |true=>
  refine iG z (show SM.mB ⟨M,D,J,true⟩ a ring r=43 from iP rfl) (show SM.lg ⟨M,D,J,true⟩ r=false from rfl) λF0 c U=>?_;clear z
  go_enter func169,ntmps169
  go_wp2_with fail
  go_ret2
  refine⟨sN,by rw[c.out];try rfl,?_⟩;have u:SM.AY ⟨M,D,J,true⟩ a ring r=⟨M,D,J,true⟩:=iN acq;have q:SM.jX ⟨M,D,J,true⟩ a ring r=⟨M,D,J,true⟩:=(iN (by rw[c.out];decide)).trans u;have P:SM.mu ⟨M,D,J,true⟩ a ring r=[]:=iN (by rw[c.out];decide);rw[q,P];exact(F0.tA).sub abP
 |false=>
  go_enter func169,ntmps169
  go_wp2_with fail
  rw[<-G0.out];clear x6;obtain⟨l,C0⟩:∃x,(aE M r).2=x:=⟨_,rfl⟩;obtain⟨cb,B0⟩:∃x,(aE M r).1=x:=⟨_,rfl⟩;refine bq C0 B0 λg p=>?_;clear C0 B0;refine an (I:=I) (L0:=ai .u8 (.slice d C S) r.data::jR W j J::di j D::L) [⟨none,none,λe=>ab E 151 (il j W t a ring false)⟩,⟨none,none,λe=>ab k 175 #[iI r.op,iI r.region,iI r.index,iU r.token,iW r.seq,.slice d C S]⟩,⟨none,none,λe=>dq t M⟩] [[],[0],[0,1],rG 3,[],rG 5,rG 6,rG 7,rG 7,rG 8,rG 10] (rG 11) rfl kR kR kR (by rfl) (λ_=>rfl) z.fk ?_;refine sW ?_;refine bp 144 (λe=> #[pO t,nv r (.slice d C S)]) (λe=> .tuple #[.bool cb,iI l]) rfl (λe wx O h=>by(
   have h:=h.fn;refine(Ff t M r d C S _ F Y.m.ok H0 (h.fi 2)).mono ?_;rintro E0 wy⟨rfl,G⟩;rw[p.out,g.out];exact⟨⟨none,0,default⟩,rfl,G.pk 3 [1,2,0]⟩)) ?_
  simp only[aW];refine sW ?_;refine aA ?_;intro e w1 h;have h:=h.fn;have K:=aa (h.pk 6 [0,1,4,2,5,3]);clear h z;by_cases o:l=0
  case neg=>
   have d0:(l==0)=false:=by simpa using o
   have d1:(l !=0)=true:=by simpa using o
   have U:=aa (show SM.lg ⟨M,D,J,false⟩ r=false by unfold SM.lg;simp only[g.out];simp[d0]);have T:Hid (SM.Is ⟨M,D,J,false⟩ a ring r=0):=iN acq;refine bq (show SM.mB ⟨M,D,J,false⟩ a ring r=l from((iN iu).trans (iP T)).trans g) o λc A=>?_;clear o
   go_wp2_with fail
   go_ret2
   refine⟨sN,by rw[c.out];try rfl,?_⟩;have u:SM.AY ⟨M,D,J,false⟩ a ring r=⟨M,D,J,false⟩:=iN acq;have q:SM.jX ⟨M,D,J,false⟩ a ring r=⟨M,D,J,false⟩:=(iN acz).trans u;have P:SM.mu ⟨M,D,J,false⟩ a ring r=[]:=iN acz;rw[q,P];exact(K.tA).sub abP
  case pos=>
   subst o;have N:=g
   cases cb with
   |false=>
    have U:=aa (show SM.lg ⟨M,D,J,false⟩ r=false by unfold SM.lg;simp only[g.out,p.out];rfl);have T:Hid (SM.Is ⟨M,D,J,false⟩ a ring r=0):=iN acq;have c:Hid (SM.mB ⟨M,D,J,false⟩ a ring r=0):=((iN iu).trans (iP T)).trans g;have u:SM.AY ⟨M,D,J,false⟩ a ring r=⟨M,D,J,false⟩:=iN acq;refine bq (show SM.jX ⟨M,D,J,false⟩ a ring r=⟨gL M r,D,J,false⟩from(iP c).trans (by rw[u])) (show SM.mu ⟨M,D,J,false⟩ a ring r=Go.Proofs.YtblpaldggenbaaaGreatDoor.mu M r from iP c) λy n=>?_;clear u
    go_wp2_with fail
    refine an (I:=I) (L0:=jR W j J::di j D::L) [⟨none,none,λe=>ab E 151 (il j W t a ring false)⟩,⟨none,none,λe=>ab k 175 #[iI r.op,iI r.region,iI r.index,iU r.token,iW r.seq,.slice d C S]⟩,⟨none,some 5,λe=>dq t M⟩,⟨none,none,λe=>ai .u8 (.slice d C S) r.data⟩,⟨some 5,none,λe=>dq t (gL M r)⟩,⟨some 5,none,λe=>aG 1 dG (e 5).v (Go.Proofs.YtblpaldggenbaaaGreatDoor.mu M r)⟩] [[],[0],[0,1],rG 3,[],rG 5,rG 6,rG 6,rG 8,rG 9] (rG 10) rfl kR kR kR (by rfl) (λ_=>rfl) K.fk ?_;refine sW ?_;refine bp 92 (λe=> #[pO t,nv r (.slice d C S)]) (λe=> .tuple #[(e 5).v,iI 0]) rfl (λe wx O h=>by(
     have h:=h.fn;refine(PI t M r d C S _ F Y.m.ok (((h.jd (Q:=λw=>ay w .u8 (.slice d C S) r.data)).fi 3).fi 1)).mono ?_;rintro E0 wy⟨Z,rfl,G⟩;rw[N.out];exact⟨⟨none,0,Z⟩,rfl,G.pk 5 [2,3,4,1,0]⟩)) ?_
    exact ado
   |true=>
    have U:=aa (show SM.lg ⟨M,D,J,false⟩ r=true by unfold SM.lg;simp only[g.out,p.out];rfl);obtain⟨le,B⟩:∃x,x=Ry M D J a ring (aZ r):=⟨_,rfl⟩;refine bq (show SM.Is ⟨M,D,J,false⟩ a ring r=le from(iP U).trans B.symm) (show SM.AY ⟨M,D,J,false⟩ a ring r=⟨M,Kz M D J a ring (aZ r),OE M D J a ring (aZ r),Ou M D J a ring (aZ r)⟩from iP U) λT u=>?_;have R:Hid (SM.mB ⟨M,D,J,false⟩ a ring r=if le=0 then(aE M r).2 else le):=(iN iu).trans (by rw[T.out]);obtain⟨r0,r1,r2,r3,r4,r5⟩:=(K.ah 1 rfl).ng;have V:=aa B;clear B
    go_wp2_with fail
    refine qK (Wl hT E j W t b a ring M D J r d C S _ Y.d J0 Y.m Y.j Y.f Y.a0 Y.j0 F Y.g HB HL ((K.jd (Q:=λw=>ay w .u8 (.slice d C S) r.data)).pk 7 [0,1,3,4,5,6,2])) λw4 h=>?_;rw[<-V.out];clear r0 r1 r2 r3 r4 r5 K V;generalize Kz M D J a ring (aZ r)=D2 at*;generalize OE M D J a ring (aZ r)=J2 at*;generalize Ou M D J a ring (aZ r)=n2 at*;by_cases o:le=0
    case neg=>
     have d1:(le !=0)=true:=by simpa using o
     refine iG (R.trans (iN o)) h o λc H5 A=>?_;clear h o
     go_wp2_with fail
     go_ret2
     refine⟨sN,by rw[c.out];try rfl,?_⟩;have q:SM.jX ⟨M,D,J,false⟩ a ring r=⟨M,D2,J2,n2⟩:=(iN acz).trans u.out;have P:SM.mu ⟨M,D,J,false⟩ a ring r=[]:=iN acz;rw[q,P];exact(H5.tA).sub abP
    case pos=>
     have c:Hid (SM.mB ⟨M,D,J,false⟩ a ring r=0):=(R.trans (iP o)).trans g;refine iG (show SM.jX ⟨M,D,J,false⟩ a ring r=⟨gL M r,D2,J2,n2⟩from(iP c).trans (by rw[u.out])) (show SM.mu ⟨M,D,J,false⟩ a ring r=Go.Proofs.YtblpaldggenbaaaGreatDoor.mu M r from iP c) (h.pk 6 [0,5,2,4,1,3]) λy n H4=>?_;subst o;clear h
     go_wp2_with fail
     refine an (I:=I) (L0:=jR W j J2::di j D2::L) [⟨none,none,λe=>ab E 151 (il j W t a ring n2)⟩,⟨none,none,λe=>ab k 175 #[iI r.op,iI r.region,iI r.index,iU r.token,iW r.seq,.slice d C S]⟩,⟨none,some 5,λe=>dq t M⟩,⟨none,none,λe=>ai .u8 (.slice d C S) r.data⟩,⟨some 5,none,λe=>dq t (gL M r)⟩,⟨some 5,none,λe=>aG 1 dG (e 5).v (Go.Proofs.YtblpaldggenbaaaGreatDoor.mu M r)⟩] [[],[0],[0,1],rG 3,[],rG 5,rG 6,rG 6,rG 8,rG 9] (rG 10) rfl kR kR kR (by rfl) (λ_=>rfl) H4.fk ?_;refine sW ?_;refine bp 92 (λe=> #[pO t,nv r (.slice d C S)]) (λe=> .tuple #[(e 5).v,iI 0]) rfl (λe wx O h=>by(
      have h:=h.fn;refine(PI t M r d C S _ F Y.m.ok (((h.jd (Q:=λw=>ay w .u8 (.slice d C S) r.data)).fi 3).fi 1)).mono ?_;rintro E0 wy⟨Z,rfl,G⟩;rw[N.out];exact⟨⟨none,0,Z⟩,rfl,G.pk 5 [2,3,4,1,0]⟩)) ?_
     exact ado
theorem xI(N V:List α)(o k:Nat)(h:o+V.length<=N.length):(bm N o V)[k]? =if o<=k/\k<o+V.length then V[k-o]? else N[k]? :=by
 unfold bm;by_cases Z:k<o
 ·rw[iN oM,pI,TE ab5,AW,iP Z]
 ·rw[pI,OB ab5,fV,Hc oM]
  by_cases G:k<o+V.length
  ·rw[iP oM,TE oM]
  ·rw[iN oM,OB oM,zU]
   exact adS
theorem VP{s v:LI}{i:Nat}(j:Nat)(o:v.length=64)(V:i*64+64<=s.length):((bm s (i*64) v).drop (j*64)).take 64=if j=i then v else(s.drop (j*64)).take 64:=by
 apply XC;intro k;rw[AW]
 split
 ·rename_i Q
  rw[zU,xI _ _ _ _ oM];by_cases R:j=i
  ·subst R
   rw[iP oM,iP rfl,zcs]
  ·rw[iN oM,iN R,AW,iP Q,zU]
 ·rename_i Q
  split
  ·rw[KV oM]
  ·rw[KV ab5]
structure Live(D:DS):Prop where
 ok:D.ok
 fz:D.gM= -1
 dn:D.down=false
theorem Live.after(h:Live D):D.after=D:=by
 obtain⟨n,d,b,B,a,k⟩:=D;have Z:a= -1:=h.fz;have G:k=false:=h.dn;subst Z;subst G
 rfl
theorem Live.goes(h:Live D):D.goes=true:=by
 unfold DS.goes;rw[h.dn,h.fz]
 rfl
theorem Live.put(h:Live D)(K:0<=i)(W:i<(D.n:Int))(B:b.length<=64):D.eR i b=0/\D.write i b=D.put i.toNat b:=by
 have Z:¬(i<0\/(D.n:Int)<=i):=oM
 have G:¬64<b.length:=oM
 unfold DS.eR DS.write;rw[iN Z,iN G,iP h.goes,iN Z,iN G,iP h.goes,h.after];exact ac7
theorem Live.write(h:Live D)(K:0<=i)(W:i<(D.n:Int))(B:b.length<=64):D.eR i b=0/\Live (D.write i b)/\∀j,(D.write i b).read j=if j=i then full b else D.read j:=by
 obtain⟨Z,G⟩:=h.put K W B;refine⟨Z,⟨h.ok.write i b,by rw[G];exact h.fz,by rw[G];exact h.dn⟩,λj=> ?_⟩;rw[G];unfold DS.read;by_cases H:j<0\/(D.n:Int)<=j
 ·have X:¬j=i:=oM
  rw[iN X];show(if j<0\/(D.n:Int)<=j then []else _)=_;rw[iP H,iP H]
 ·show(if j<0\/(D.n:Int)<=j then []else _)=_
  rw[iN H,iN H];show((bm D.seen (i.toNat*64) (full b)).drop (j.toNat*64)).take 64=_;have V:=h.ok.hs;rw[VP j.toNat (jY B) oM];by_cases R:j=i
  ·rw[iP R,iP (by rw[R])]
  ·rw[iN R,iN oM]
   rfl
theorem Live.sync(h:Live D):Live D.sync/\D.sync.aq=[]/\∀j,D.sync.read j=D.read j:=by
 have Z:D.sync={D with sure:=qX D.sure D.aq,aq:=[]}:=by
  unfold DS.sync;rw[iP h.goes,h.after]
 refine⟨⟨h.ok.sync,by rw[Z];exact h.fz,by rw[Z];exact h.dn⟩,by rw[Z],λj=> ?_⟩;rw[Z]
 rfl
theorem mG{x:Int}{k:Nat}(K:0<=x)(Z:x<256^k):iq (aV x k)=x:=by
 obtain⟨n,rfl⟩:=BE K;rw[Gq];have G:n<256^k:=by
  have M:((256^k:Nat):Int)=(256:Int)^k:=Int.natCast_pow 256 k;rw[<-M]at Z;exact Int.ofNat_lt.1 Z
 rw[Ye G]
theorem kC{N R:List α}{k:Nat}(h:N.length=k):(N++R).take k=N:=by rw[<-h,Xe]
theorem l5{N R:List α}{k:Nat}(h:N.length=k):(N++R).drop k=R:=by rw[<-h,Xo]
theorem x7(h:b.length=64):full b=b:=by
 unfold full bW;rw[h];exact abN
theorem lS{q e:Int}(y:0<q/\q<4294967296)(Y:0<=e/\e<4294967296)(B:b.length<=43):cW (aR q e b)=⟨q,e,b,true⟩:=by
 have F:=dI q e B;have l:=pJ q e B;obtain⟨s,V⟩:=nM (aR q e b);have S:(aR q e b).drop 52=aV (rB (lL q e b)) 4++aV q 4++aV e 4:=l5 l;have t0:(aR q e b).take 52=lL q e b:=kC l;have k:aR q e b=aV q 4++(aV e 4++(aV (b.length:Nat) 1++(b++(bW (43-b.length)++(aV (rB (lL q e b)) 4++aV q 4++aV e 4))))):=by
  unfold aR lL;simp only[pI]
 have d4:(aR q e b).drop 4=aV e 4++(aV (b.length:Nat) 1++(b++(bW (43-b.length)++(aV (rB (lL q e b)) 4++aV q 4++aV e 4)))):=by rw[k];exact l5 (au _ _)
 have d8:(aR q e b).drop 8=aV (b.length:Nat) 1++(b++(bW (43-b.length)++(aV (rB (lL q e b)) 4++aV q 4++aV e 4))):=by
  rw[show(8:Nat)=4+4 from rfl,<-FI,d4];exact l5 (au _ _)
 have d9:(aR q e b).drop 9=b++(bW (43-b.length)++(aV (rB (lL q e b)) 4++aV q 4++aV e 4)):=by
  rw[show(9:Nat)=8+1 from rfl,<-FI,d8];exact l5 (au _ _)
 have d56:(aR q e b).drop 56=aV q 4++aV e 4:=by
  rw[show(56:Nat)=52+4 from rfl,<-FI,S,pI];exact l5 (au _ _)
 have d60:(aR q e b).drop 60=aV e 4:=by
  rw[show(60:Nat)=56+4 from rfl,<-FI,d56];exact l5 (au _ _)
 have o:(256:Int)^4=4294967296:=dC
 have d:mj (aR q e b)=q:=by
  show iq (((aR q e b).drop 0).take 4)=q;rw[Bg,k,kC (au _ _)];exact mG oM (by rw[o];omega)
 have O:nk (aR q e b)=e:=by
  show iq (((aR q e b).drop 4).take 4)=e;rw[d4,kC (au _ _)];exact mG oM (by rw[o];omega)
 have I:xW (aR q e b)=(b.length:Nat):=by
  show iq (((aR q e b).drop 8).take 1)=_;rw[d8,kC (au _ _)];exact mG oM ab4
 have n:Ix (aR q e b)=rB (lL q e b):=by
  show iq (((aR q e b).drop 52).take 4)=_;rw[S,pI,kC (au _ _)];have:=zl (lL q e b);exact mG this.1 (by rw[o];omega)
 have u:jp (aR q e b)=q:=by
  show iq (((aR q e b).drop 56).take 4)=q;rw[d56,kC (au _ _)];exact mG oM (by rw[o];omega)
 have r:kY (aR q e b)=e:=by
  show iq (((aR q e b).drop 60).take 4)=e;rw[d60,oJ (by rw[au];exact io _)];exact mG oM (by rw[o];omega)
 have a:jU (aR q e b)=true:=by
  unfold jU;rw[d,O,I,n,u,r,t0,F];have Z:(q==0)=false:=by simpa using(show¬q=0 by omega)
  have G:decide (((b.length:Nat):Int)>43)=false:=decide_eq_false (by omega);rw[Z,G];exact abN
 have j:tf (aR q e b)=b:=by
  show((aR q e b).drop 9).take (xW (aR q e b)).toNat=b;rw[I,d9,rE];exact kC rfl
 unfold cW;rw[iP a,d,O,j]
theorem nw(D:DS)(a:Int):aJ D a=eN D (a+1) (eN D a ⟨a+1,0,[]⟩):=by
 show eN D (a+((1:Nat):Int)) (eN D (a+((0:Nat):Int)) ⟨a+1,0,[]⟩)=_;rw[show a+((0:Nat):Int)=a from VW a]
 rfl
theorem nW{D Q:DS}(h:Q.read i=D.read i):cg Q i=cg D i:=by unfold cg;rw[h]
theorem fW{D Q:DS}(K:Q.read a=D.read a)(Z:Q.read (a+1)=D.read (a+1)):aJ Q a=aJ D a:=by
 rw[nw,nw];unfold eN;rw[nW K,nW Z]
theorem Ac{D Q:DS}(h:aJ Q a=aJ D a):ib Q a=ib D a/\j9 Q a=j9 D a:=by
 unfold ib j9;rw[h];exact ac7
theorem IH{D Q:DS}(h:aJ Q a=aJ D a):cM Q a=cM D a:=by
 unfold cM;rw[(Ac h).1,(Ac h).2]
theorem ox(D:DS)(a:Int):dp D a=a\/dp D a=a+1:=by
 unfold dp;rcases mR D a 2 oM with h|h
 ·have h:(aJ D a).at_=a:=h
  rw[h];omega
 ·have h:(aJ D a).at_=a+1:=h
  rw[h];omega
theorem tX(B:Bytes D.seen)(a:Int):0<=(aJ D a).q/\(aJ D a).q<4294967296:=⟨(iR B a 2).1,(iR B a 2).2.1⟩
theorem Fq{D Q:DS}{a q:Int}(d:q=(aJ D a).q+1)(K:0<=(aJ D a).q)(U:∀j,cg Q j=if j=dp D a then⟨q,0,b,true⟩else cg D j):aJ Q a=⟨dp D a,q,b⟩:=by
 have o:dp D a=2*a+1-(aJ D a).at_:=rfl;have g:=nw D a;rw[nw Q a];obtain⟨x,J⟩:=nM (eN D a ⟨a+1,0,[]⟩);rw[<-J]at g;by_cases P:dp D a=a
 ·
  have u:eN Q a ⟨a+1,0,[]⟩=⟨a,q,b⟩:=by
   unfold eN;rw[show cg Q a=⟨q,0,b,true⟩from(U _).trans (iP P.symm)];rw[iP ⟨rfl,by show q>0;omega⟩]
  rw[u,P];unfold eN;rw[show cg Q (a+1)=cg D (a+1)from(U _).trans (iN oM)];refine iN ?_;rintro⟨Z,G⟩;have G:(cg D (a+1)).q>q:=G;have M:(aJ D a).q≥(cg D (a+1)).q:=by
   rw[g];unfold eN
   split
   ·exact cO _
   ·rename_i W
    have:¬(cg D (a+1)).q>x.q:=λh=>W ⟨Z,h⟩;omega
  omega
 ·have X:dp D a=a+1:=(ox D a).resolve_left P
  have u:eN Q a ⟨a+1,0,[]⟩=x:=by
   rw[J];unfold eN;rw[show cg Q a=cg D a from(U _).trans (iN oM)]
  rw[u,X];unfold eN;rw[show cg Q (a+1)=⟨q,0,b,true⟩from(U _).trans (iP X.symm)];refine iP ⟨rfl,?_⟩;show q>x.q;have M:(aJ D a).q≥x.q:=by
   rw[g];unfold eN
   split
   ·rename_i W;show(cg D (a+1)).q≥x.q;omega
   ·exact cO _
  omega
theorem Live.save(h:Live D)(B:Bytes D.seen)(T:0<=a/\a+1<(D.n:Int))(F:b.length<=43)(d:(aJ D a).q<4294967295):
 ic D a b=0/\Live (cG D a b)/\(cG D a b).aq=[]/\aJ (cG D a b) a=⟨dp D a,(aJ D a).q+1,b⟩/\∀j,j≠a->j≠a+1->(cG D a b).read j=D.read j:=by
 have K:=tX B a;have V:=h.sync;have g:(lH D a b).length=64:=dI _ _ F;have X:¬(aJ D a).q=4294967295:=oM
 have o:=ox D a;have W:D.sync.n=D.n:=DS.kD D;obtain⟨z,R,Y⟩:=V.1.write (i:=dp D a) (b:=lH D a b) oM (by rw[W];omega) oM;have M:p9 D a b=0:=(iN X).trans z;have C:qk D a b=D.sync.write (dp D a) (lH D a b):=iN X;have N:cG D a b=(D.sync.write (dp D a) (lH D a b)).sync:=(iP M).trans (by rw[C]);have E:=R.sync;have I:∀j,(cG D a b).read j=if j=dp D a then lH D a b else D.read j:=by
  intro j;rw[N,E.2.2 j,Y j,x7 g]
  split
  ·rfl
  ·exact V.2.2 j
 refine⟨?_,by rw[N];exact E.1,by rw[N];exact E.2.1,?_,?_⟩
 ·unfold ic
  rw[iP M,C,E.1.dn]
  rfl
 ·refine Fq rfl K.1 (λj=> ?_)
  unfold cg;rw[I j]
  split
  ·exact lS oM oM F
  ·rfl
 ·intro j Z G
  rw[I j,iN oM]
theorem sP(h:b.length<=24):(bG b).length<=26:=by
 unfold bG;rw[dB,au,fV];omega
theorem KT:∀(l:List (LI)),(∀x∈l,x.length<=24)->(l.flatMap bG).length<=l.length*26
 |[],_=>by simp
 |x::r,h=>by
  have Z:=sP (h x abN);have G:=KT r (λy E=>h y (Bd _ E));rw[BA,dB,qR];omega
theorem vo{x:Rg}(h:x.ok):(gK x).length<=221:=by
 have a:=sP (h.bb 0);have H:=sP (h.bb 1);have O:=sP (h.bb 2);have d:=sP (h.bb 3);have g:=KT x.log h.lb;have C:=h.ll;have K:=dU x.ax 8;have u:(bM x.seq 4).length=4:=by rw[uQ,au]
 have J:(bM (x.log.length:Nat) 1).length=1:=by rw[LA,au]
 unfold gK;simp only[dB];omega
structure MB(m:Nat->Rg):Prop where
 b:∀k j,Bytes ((m k).b j)
 l:∀k,∀x∈(m k).log,Bytes x
theorem MB.tv:MB tv:=⟨λ_ _=>Bytes.nil,λ_ x J=>by simp[Go.Proofs.YtblpaldggenbaaaGreatDoor.tv,Rg.zero]at J⟩
theorem tp:∀(l:List (LI)),(∀x∈l,Bytes x)->Bytes (l.flatMap bG)
 |[],_=>Bytes.nil
 |x::r,h=>by
  rw[BA];exact(kT (h x abN)).append (tp r (λy E=>h y (Bd _ E)))
theorem pL{m:Nat->Rg}(h:MB m)(k:Nat):Bytes (gK (m k)):=by
 unfold gK;exact(((((((iK _ _).append (iK _ _)).append (kT (h.b k 0))).append (kT (h.b k 1))).append (kT (h.b k 2))).append (kT (h.b k 3))).append (iK _ _)).append (tp _ (h.l k))
theorem MB.TS{m:Nat->Rg}(h:MB m)(q:∀k,(m k).ok):Xt m:=by
 have e:bi m=((([]++gK (m 0))++gK (m 1))++gK (m 2))++gK (m 3):=by
  show ji m 4=_;rw[cX,cX,cX,cX]
  rfl
 refine⟨q,?_,?_⟩
 ·rw[e]
  simp only[dB,MJ];have K:=vo (q 0);have Z:=vo (q 1);have G:=vo (q 2);have M:=vo (q 3);omega
 ·rw[e]
  exact(((Bytes.nil.append (pL h 0)).append (pL h 1)).append (pL h 2)).append (pL h 3)
theorem MB.gL{m:Nat->Rg}{r:RQ}(h:MB m)(U:Bytes r.data):MB (gL m r):=by
 unfold Go.Proofs.YtblpaldggenbaaaGreatDoor.gL
 split
 ·refine⟨λk j=> ?_,λk x J=> ?_⟩
  ·unfold aI
   split
   ·show Bytes ((if r.op=2 then aI _ r.index.toNat r.data else _) j)
    split
    ·unfold aI
     split
     ·exact U
     ·exact h.b _ j
    ·exact h.b _ j
   ·exact h.b k j
  ·unfold aI at J
   split at J
   ·have J:x∈(if r.op=4 then(m r.region.toNat).log++[r.data]else if r.op=5 then(m r.region.toNat).log.drop r.index.toNat else(m r.region.toNat).log):=J
    split at J
    ·rcases oc.1 J with J|J
     ·exact h.l _ x J
     ·rw[nN.1 J];exact U
    ·split at J
     ·exact h.l _ x (TW J)
     ·exact h.l _ x J
   ·exact h.l k x J
 ·exact h
theorem Tg{m:Sc}(h:0<=m.ar/\m.ar<=1)(W:0<=m.nu/\m.nu<4294967296)(V:0<=m.sz/\m.sz<65536)(Q:m.ok=true):nT (eW m)=m:=by
 have u:(Rd.mk (eW m) false).num 1=(m.ar,⟨aV m.nu 4++aV m.sz 2,false⟩):=by
  have:=Rd.jc (eW m) 1 oM oM (by rw[qh];omega);rw[show((1:Nat):Int)=1 from rfl]at this;rw[this];unfold eW;rw[pI,kC (au _ _),l5 (au _ _),mG h.1 ab4]
 have Y:(⟨aV m.nu 4++aV m.sz 2,false⟩:Rd).num 4=(m.nu,⟨aV m.sz 2,false⟩):=by
  have:=Rd.jc (aV m.nu 4++aV m.sz 2) 4 oM oM (by rw[dB,au];omega);rw[show((4:Nat):Int)=4 from rfl]at this;rw[this,kC (au _ _),l5 (au _ _),mG W.1 (by rw[show(256:Int)^4=4294967296 by decide];omega)]
 have P:(⟨aV m.sz 2,false⟩:Rd).num 2=(m.sz,⟨[],false⟩):=by
  have:=Rd.jc (aV m.sz 2) 2 oM oM (by rw[au];omega);rw[show((2:Nat):Int)=2 from rfl]at this;rw[this,oJ (by rw[au];omega),UY (by rw[au];omega),mG V.1 (by rw[show(256:Int)^2=65536 by decide];omega)]
 have x:Dw (eW m)=⟨m.ar,m.nu,m.sz,true⟩:=by unfold Dw;rw[u,Y,P]
 have q:(XN (eW m)).kw=0:=by unfold XN;rw[u,Y,P];rfl
 unfold nT;rw[x,q,iN (by show¬((0:Int)≠0\/m.ar>1);omega)];obtain⟨g,l,d,ok⟩:=m;have Q:ok=true:=Q;subst Q
 rfl
def SM.XL(s:SM)(a:Int):SM:=⟨s.M,uA s.M s.D s.J a,Bx s.M s.D s.J a,Ag s.M s.D s.J a==43⟩
theorem JM.qY(J:JM):J.slot.length=12:=by simp only[JM.slot,dB,au]
theorem yz(r:RQ):(aZ r).length<=43:=by
 unfold aZ
 split
 ·rename_i M
  have:=RQ.gT M;have B:=sP this.2.2.2.2.2.2;unfold wF;simp only[dB];have u:∀x:Int,(bM x 1).length=1:=λx=>by rw[LA,au]
  have b:∀x:Int,(bM x 4).length=4:=λx=>by rw[uQ,au]
  have e:=dU r.token 8;rw[u,u,u,b];omega
 ·exact iD _
end Go.Proofs.YtblpaldggenbaaaGreatDoor
