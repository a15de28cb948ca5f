/- A part. -/
import Derived.Test.YtblpaldggenbaaaGreatDoorMe
import Derived.Test.YtblpaldggenbaaaGreatDoorMd
import Derived.Test.YtblpaldggenbaaaGreatDoorMc
namespace Go.Proofs.YtblpaldggenbaaaGreatDoor
open Go.RowKit Go.Proofs.Tryz
set_option maxRecDepth 100000
set_option maxHeartbeats 64000000
variable{L:List aw}{I:aH}{s:LI}{w:World}{fn:Func}{P:Program}{v:Value}
def wm(r:RQ):LI:=bL r.op 1++bL r.region 1++bL r.index 1++bL r.token 8++bL r.seq 4++bE r.data
def aY(r:RQ):LI:=if r.b9=0 then wm r else []
def Rd.nR(r:Rd):RQ×Rd:=
 (⟨(r.num 1).1,((r.num 1).2.num 1).1,(((r.num 1).2.num 1).2.num 1).1,((((r.num 1).2.num 1).2.num 1).2.num 8).1,(((((r.num 1).2.num 1).2.num 1).2.num 8).2.num 4).1,(((((r.num 1).2.num 1).2.num 1).2.num 8).2.num 4).2.gE.1⟩,
  (((((r.num 1).2.num 1).2.num 1).2.num 8).2.num 4).2.gE.2)
def oc(X:LI):Int:=if(Rd.nR ⟨X,false⟩).2.kx=0 then(Rd.nR ⟨X,false⟩).1.b9 else(Rd.nR ⟨X,false⟩).2.kx
def pY(X:LI):RQ:=if oc X=0 then(Rd.nR ⟨X,false⟩).1 else⟨0,0,0,0,0,[]⟩
theorem Ui{r:Rd}(h:r.Ok):(Rd.nR r).1.ok:=
 ⟨(Rd.yb (((h.num 1).num 1).num 1)).1,(Rd.yb (((h.num 1).num 1).num 1)).2,(Rd.lC ((((h.num 1).num 1).num 1).num 8)).1,(Rd.lC ((((h.num 1).num 1).num 1).num 8)).2⟩
theorem LF{bs:LI}(h:Rd.Ok ⟨bs,false⟩):(pY bs).ok:=by
 unfold pY
 split
 ·exact Ui h
 ·exact⟨dC,dC,dC,dC⟩
theorem eZ{t k:Nat}{ty:TypeId}{a:Addr}(h:fn.results= #[.cell t ty,.tmp k])(b:Vq)(Q:b.getD t undef= .pointer (some a))(C:(loadVar ty a).run P w= .ok v w):
 (results fn b).run P w= .ok (.tuple #[v,b.getD k undef]) w:=by
 exact aef
theorem vU(v:Value)(X:LI)(w:World)(W:Bytes X)(hl:X.length<=1000000)(h:St I w (ai .u8 v X::L)):
 Calls prog 91 #[v] w λe O=>∃A n c,e= .returned (.tuple #[nQ (pY X) (.slice A n c),iI (oc X)])/\St I O (ai .u8 (.slice A n c) (pY X).data::L):=by
 obtain⟨A0,c0,rfl,_,_,_⟩:=h.get 0 rfl;have u:Rd.Ok (Rd.mk X false):=⟨W,by show X.length<=140737488355328;omega,λh=>by cases h⟩;refine mr (show oc X=if(Rd.nR ⟨X,false⟩).2.kx=0 then(Rd.nR ⟨X,false⟩).1.b9 else(Rd.nR ⟨X,false⟩).2.kx from rfl) (show pY X=if oc X=0 then(Rd.nR ⟨X,false⟩).1 else⟨0,0,0,0,0,[]⟩from rfl) ((h.alloc 175 #[iI 0,iI 0,iI 0,iU 0,iW 0,sN]).swap) u λi l H q=>?_;clear h u W hl
 go_enter func91,ntmps91
 go_wp2_with fail
 refine(ox _ X _ H).mono ?_;rintro e w1⟨g,rfl,h⟩;have r:=aa (h.tS);clear H h
 go_wp2_with fail
 refine bm (Rd.mO q) (q.num 1) λB0 V=>?_;refine qH (bM g _ 1 _ q.hb q.hl q.hz r) λu1 T=>?_;clear r;unfold Rd.nR at i l;generalize((Rd.mk X false).num 1).2=r1 at*;generalize((Rd.mk X false).num 1).1=a0 at*;obtain⟨b0,d0⟩:=B0.out
 go_wp2_with fail
 refine bm (Rd.mO V) (V.num 1) λC0 F=>?_;refine qH (bM g _ 1 _ V.hb V.hl V.hz T) λu2 N=>?_;clear T;generalize(r1.num 1).2=r2 at*;generalize(r1.num 1).1=a1 at*;obtain⟨b1,d1⟩:=C0.out
 go_wp2_with fail
 refine bm (Rd.mO F) (F.num 1) λD0 G=>?_;refine qH (bM g _ 1 _ F.hb F.hl F.hz N) λu3 E=>?_;clear N;generalize(r2.num 1).2=r3 at*;generalize(r2.num 1).1=a2 at*;obtain⟨b2,d2⟩:=D0.out
 go_wp2_with fail
 refine bm (Rd.yb G) (G.num 8) λE0 R=>?_;refine qH (bM g _ 8 _ G.hb G.hl G.hz E) λu4 K=>?_;clear E;generalize(r3.num 8).2=r4 at*;generalize(r3.num 8).1=a3 at*;obtain⟨b3,d3⟩:=E0.out
 go_wp2_with fail
 refine bm (Rd.lC R) (R.num 4) λF0 b=>?_;refine qH (bM g _ 4 _ R.hb R.hl R.hz K) λu5 D=>?_;clear K;generalize(r4.num 4).2=r5 at*;generalize(r4.num 4).1=a4 at*;obtain⟨b4,d4⟩:=F0.out
 go_wp2_with fail
 have H0:=aa b.gE;refine(yR g r5 _ b.hb b.hl b.hz D).mono ?_;rintro e u6⟨v6,rfl,h⟩;generalize r5.gE.2=r6 at*;generalize r5.gE.1=data at*;obtain⟨S,d,rfl,_,_,_⟩:=h.get 0 rfl;generalize M:data.length=nd at*;refine bm M (h.alloc 175 #[iI a0,iI a1,iI a2,iU a3,iW a4,.slice S nd d]) λG0 B=>?_;clear D h M
 go_wp2_with fail
 refine qK (qP g r6 _ B.tX) λu7 h=>?_;generalize r6.kx=ee at*;obtain⟨e0,e1,e2,e3,e4,e5⟩:=(h.ah 1 rfl).ni;obtain⟨z0,z1,z2,z3,z4,z5⟩:=(h.ah 3 rfl).ni;have fz:=(h.ah 3 rfl).frozen;have C:=aa h;clear B h;by_cases Y:ee=0
 ·subst Y
  rw[iP rfl]at i
  go_wp2_with fail
  refine qK (vv ⟨a0,a1,a2,a3,a4,data⟩ S nd d _ G0.symm) λu8 a=>?_;have h:=C.grow a;obtain⟨e0,e1,e2,e3,e4,e5⟩:=(h.ah 1 rfl).ni;obtain⟨z0,z1,z2,z3,z4,z5⟩:=(h.ah 3 rfl).ni;have fz:=(h.ah 3 rfl).frozen;have J:=aa h;clear C h a;generalize RQ.b9 ⟨a0,a1,a2,a3,a4,data⟩=ww at*;by_cases U:ww=0
  ·subst U
   go_wp2_with fail
   have P:=(((((J.pk 4 [3,2]).bI 0 (iI a0)).bI 1 (iI a1)).bI 2 (iI a2)).bI 3 (iU a3)).bI 4 (iW a4)|>.bI 5 (.slice S nd d);have Z:eF _ w.heap.size 175 #[iI a0,iI a1,iI a2,iU a3,iW a4,.slice S nd d]:=P.ah 0 rfl;obtain⟨o,p,x,y,Q,z⟩:=Z.ni;refine bodyPost_ret (v:= .tuple #[.agg #[iI a0,iI a1,iI a2,iU a3,iW a4,.slice S nd d],iI 0]) (eZ (fn:=Tryz.f91) (t:=2) (k:=3) (ty:=175) rfl _ rfl ?_) rfl ⟨S,nd,d,?_,?_⟩
   ·go_simp
   ·rw[l.out,i.out];rfl
   ·rw[l.out,iP i.out]
    exact P.tail
  ·have J0:(ww !=0)=true:=by simp[U]
   have j:=aa U;clear U
   go_wp2_with fail
   have P:=(((((J.pk 4 [3,2]).bI 0 (iI 0)).bI 1 (iI 0)).bI 2 (iI 0)).bI 3 (iU 0)).bI 4 (iW 0)|>.bI 5 sN;have Z:eF _ w.heap.size 175 #[iI 0,iI 0,iI 0,iU 0,iW 0,sN]:=P.ah 0 rfl;obtain⟨o,p,x,y,Q,z⟩:=Z.ni;refine bodyPost_ret (v:= .tuple #[.agg #[iI 0,iI 0,iI 0,iU 0,iW 0,sN],iI ww]) (eZ (fn:=Tryz.f91) (t:=2) (k:=3) (ty:=175) rfl _ rfl ?_) rfl ⟨none,0,0,?_,?_⟩
   ·go_simp
   ·rw[l.out,iN adg,i.out]
   ·exact afF
 ·rw[iN Y]at i
  have I0:(ee !=0)=true:=by simp[Y]
  have heq:(ee==0)=false:=kO Y;have j:=aa Y;clear Y
  go_wp2_with fail
  have P:=(((((C.pk 4 [3,2]).bI 0 (iI 0)).bI 1 (iI 0)).bI 2 (iI 0)).bI 3 (iU 0)).bI 4 (iW 0)|>.bI 5 sN;have Z:eF _ w.heap.size 175 #[iI 0,iI 0,iI 0,iU 0,iW 0,sN]:=P.ah 0 rfl;obtain⟨o,p,x,y,Q,z⟩:=Z.ni;refine bodyPost_ret (v:= .tuple #[.agg #[iI 0,iI 0,iI 0,iU 0,iW 0,sN],iI ee]) (eZ (fn:=Tryz.f91) (t:=2) (k:=3) (ty:=175) rfl _ rfl ?_) rfl ⟨none,0,0,?_,?_⟩
  ·go_simp
  ·rw[l.out,iN adg,i.out]
  ·exact afF
theorem GU(r:RQ):(wm r).length<=1100:=by
 have:=dM r.op 1;have:=dM r.region 1;have:=dM r.index 1;have:=dM r.token 8;have:=dM r.seq 4;have:=iA r.data;unfold wm;simp only[eG];omega
theorem wK(r:RQ)(A:OA)(n c:Nat)(w:World)(G:r.ok)(h:St I w (ai .u8 (.slice A n c) r.data::L)):
 Calls prog 166 #[nQ r (.slice A n c)] w λe O=>∃v,e= .returned (.tuple #[v,iI r.b9])/\St I O (ai .u8 v (aY r)::L):=by
 have W:n=r.data.length:=(h.get 0 rfl).sl.1;refine mr (vv r A n c) W G h λB R y H=>?_;clear h W G;by_cases U:r.b9=0
 ·obtain⟨z,z1,z2,z3,z4,z5,z6⟩:=RQ.gO U
  have E:Hid (aY r=wm r):=aa (iP U);have F:=aa (GU r);unfold wm at E F;rw[U]at B;rw[U];clear U;obtain⟨o,region,index,token,seq,data⟩:=r;simp only at z z1 z2 z3 z4 z5 z6;obtain⟨t0,t1,J,Q⟩:=y.out;simp only at t0 t1 J Q
  go_enter func166,ntmps166
  go_wp2_with fail
  refine qK (B _ R) λl a=>?_;have Z:=(H.alloc 175 #[iI o,iI region,iI index,iU token,iW seq,.slice A n c]).grow a;obtain⟨M,S,P,t,p,u⟩:=(Z.ah 0 rfl).ni;have Y:=St.uu (xs:=[]) ((Z.my 5 1).alloc 83 #[sN]) rfl;obtain⟨M,S,P,t,p,u⟩:=(Y.ah 1 rfl).ni;have V:=Y.alloc 3 #[iI o,iI region,iI index];obtain⟨q,g,k⟩:=(V.ah 0 rfl).three;simp only[World.size_alloc]at V q g k;have T:=aa V.swap;clear H a Z V Y
  go_wp2_with fail
  refine wp_loop_rounds 4 ?_;rw[rounds_succ]
  go_wp2_with fail
  refine qK (dg l.heap.size o 1 _ _ acy T) λw2 h=>?_;have g:=(h.ah 1 rfl).cell 1;have N:=aa h;clear T h q k
  go_wp2_with fail
  rw[rounds_succ]
  go_wp2_with fail
  refine qK (dg l.heap.size region 1 _ _ (by have:=F.out;simp only[eG]at this⊢;simp;omega) N) λw3 h=>?_;have k:=(h.ah 1 rfl).cell 2;have d:=aa h;clear N h g
  go_wp2_with fail
  rw[rounds_succ]
  go_wp2_with fail
  refine qK (dg l.heap.size index 1 _ _ (by have:=F.out;simp only[eG]at this⊢;simp;omega) d) λw4 h=>?_;obtain⟨M,S,P,t,p,u⟩:=(h.ah 2 rfl).ni;have K:=aa h;clear d h k
  go_wp2_with fail
  rw[rounds_succ]
  go_wp2_with fail
  refine qK (dg l.heap.size token 8 _ _ (by have:=F.out;simp only[eG]at this⊢;simp;omega) K) λw5 h=>?_;obtain⟨M,S,P,t,p,u⟩:=(h.ah 2 rfl).ni;have D:=aa h;clear K h
  go_wp2_with fail
  refine qK (dg l.heap.size seq 4 _ _ (by have:=F.out;simp only[eG]at this⊢;simp;omega) D) λw6 h=>?_;obtain⟨M,S,P,t,p,u⟩:=(h.ah 2 rfl).ni;have j:=h.pk 4 [0,3];have C:=aa j;clear D h j
  go_wp2_with fail
  refine qH (tG l.heap.size _ data _ _ (by have:=F.out;simp only[eG]at this⊢;simp;omega) C) λw7 b=>?_;clear C
  go_wp2_with fail
  refine(qu l.heap.size _ _ (by have:=F.out;simp only[eG]at this⊢;simp;omega) b).mono ?_;rintro e w8⟨v,rfl,h⟩;have i:=aa (h.ints.pk 3 [0]);clear b h
  go_wp2_with fail
  go_ret2
  exact⟨v,rfl,by rw[E.out];simpa using i.out⟩
 ·have E:Hid (aY r=[]):=aa (iN U)
  have hb:(r.b9 !=0)=true:=by simp[U]
  obtain⟨o,region,index,token,seq,data⟩:=r;generalize RQ.b9 ⟨o,region,index,token,seq,data⟩=x at*;clear U
  go_enter func166,ntmps166
  go_wp2_with fail
  refine qK (B _ R) λl a=>?_;have X:=aa ((H.nP _).grow a);clear H a
  go_wp2_with fail
  go_ret2
  exact⟨_,rfl,by rw[E.out];exact X.tail.bG (λO _=>aA.none_ O _)⟩
theorem rA(n:Int)(k:Nat)(Z:1<=k)(S:k<=8)(K:0<=n)(W:n<256^k)(rest:LI):Rd.num ⟨bL n k++rest,false⟩ (k:Int)=(n,⟨rest,false⟩):=by
 obtain⟨m,rfl⟩:=zY K;have e:bL (m:Int) (k:Int)=aT m k:=by
  unfold bL;rw[iN oM,qG]
 have y:m<256^k:=by
  have:((256^k:Nat):Int)=(256:Int)^k:=by simp
  omega
 rw[e,Rd.pR m k Z S,Wg y]
theorem oY(b:LI)(h:b.length<=1000)(rest:LI):Rd.gE ⟨bE b++rest,false⟩=(b,⟨rest,false⟩):=by
 have Z:=Rd.Qi ⟨9,0,b⟩ (ef 0) rfl (by unfold r9;simp;omega) rest;have e:Md ⟨9,0,b⟩=bE b:=iP rfl;rw[e]at Z;unfold Rd.PT at Z;rw[iP rfl]at Z;have V:=congrArg (λp=>p.1.b) Z;have M:=congrArg Prod.snd Z;simp only at V M;exact Prod.ext (V.trans (by simp[Ti.norm])) M
theorem wY{r:RQ}(G:r.ok)(U:r.b9=0):oc (wm r)=0/\pY (wm r)=r:=by
 obtain⟨y,z,q,R,Q,i,W⟩:=RQ.gO U;obtain⟨t0,t1,J,O⟩:=G;have e:Rd.nR ⟨wm r,false⟩=(r,⟨[],false⟩):=by
  unfold wm Rd.nR;have S:∀rest,Rd.num ⟨bL r.op 1++rest,false⟩ 1=(r.op,⟨rest,false⟩):=rA r.op 1 oM oM oM oM;have P:∀rest,Rd.num ⟨bL r.region 1++rest,false⟩ 1=(r.region,⟨rest,false⟩):=rA r.region 1 oM oM oM oM;have t:∀rest,Rd.num ⟨bL r.index 1++rest,false⟩ 1=(r.index,⟨rest,false⟩):=rA r.index 1 oM oM oM oM;have p:∀rest,Rd.num ⟨bL r.token 8++rest,false⟩ 8=(r.token,⟨rest,false⟩):=rA r.token 8 oM oM oM (by simpa using t1);have u:∀rest,Rd.num ⟨bL r.seq 4++rest,false⟩ 4=(r.seq,⟨rest,false⟩):=rA r.seq 4 oM oM oM (by simpa using O);have b:=oY r.data oM [];rw[rX]at b;simp only[nX,S,P,t,p,u,b]
 have M:oc (wm r)=0:=by
  unfold oc;rw[e];show(if Rd.kx ⟨[],false⟩=0 then r.b9 else _)=0;rw[iP dC,U]
 refine⟨M,?_⟩;unfold pY;rw[iP M,e]
theorem kV{b:LI}(h:Bytes b):Bytes (bE b):=(cg _ _).append (h.take _)
theorem nJ{r:RQ}(h:Bytes r.data):Bytes (aY r):=by
 unfold aY
 split
 ·exact(((((iB _ _).append (iB _ _)).append (iB _ _)).append (iB _ _)).append (iB _ _)).append (kV h)
 ·exact Bytes.nil
def CE:LI:=[0,498536548,997073096,651767980,1994146192,1802195444,1303535960,1342533948,3988292384,4027552580,3604390888,3412177804,2607071920,2262029012,2685067896,3183342108]
def RY(s:Int):Int:=bits .xor .u32 (s/16) (CE.getD (bits .and .u32 s 15).toNat 0)
def Fw(s c:Int):Int:=RY (RY (bits .xor .u32 s c))
def o9(s:Int)(b:LI):Int:=b.foldl Fw s
def rp(b:LI):Int:=bits .xor .u32 4294967295 (o9 4294967295 b)
theorem wrap_u32(x:Int):0<=IntKind.u32.wrap x/\IntKind.u32.wrap x<4294967296:=by
 have:IntKind.u32.wrap x=x%4294967296:=rfl;rw[this];omega
theorem FB(o:BinOp)(x y:Int):0<=bits o .u32 x y/\bits o .u32 x y<4294967296:=wrap_u32 _
theorem De(x:Int):0<=bits .and .u32 x 15/\bits .and .u32 x 15<16:=by
 have h:bits .and .u32 x 15=(((BitVec.ofInt 32 x)&&&(BitVec.ofInt 32 15)).toNat:Int)%4294967296:=rfl;have V:((BitVec.ofInt 32 x)&&&(BitVec.ofInt 32 15)).toNat<=15:=by
  rw[BitVec.toNat_and];exact Nat.and_le_right
 rw[h];omega
theorem IQ(s:Int):0<=RY s/\RY s<4294967296:=FB _ _ _
theorem zj(b:LI):0<=rp b/\rp b<4294967296:=FB _ _ _
theorem Gm(s:Int)(b:LI)(h:0<=s/\s<4294967296):0<=o9 s b/\o9 s b<4294967296:=by
 induction b generalizing s with
 |nil=>exact h
 |cons c b K=>exact K _ (IQ _)
def lP(seq a:Int)(b:LI):LI:=aT seq 4++aT a 4++aT (b.length:Nat) 1++b++bV (43-b.length)
def aP(seq a:Int)(b:LI):LI:=lP seq a b++(aT (rp (lP seq a b)) 4++aT seq 4++aT a 4)
def yN(s:LI)(o:Nat):Int:=ik ((s.drop o).take 4)
def mv(s:LI):Int:=yN s 0
def np(s:LI):Int:=yN s 4
def xP(s:LI):Int:=ik ((s.drop 8).take 1)
def IM(s:LI):Int:=yN s 52
def jh(s:LI):Int:=yN s 56
def kX(s:LI):Int:=yN s 60
def jS(s:LI):Bool:=decide (s.length=64)&& !((mv s==0)||(mv s !=jh s)||(np s !=kX s)||decide (xP s>43)||(IM s !=rp (s.take 52)))
def tf(s:LI):LI:=(s.drop 9).take (xP s).toNat
structure PM where
 q:Int
 e:Int
 b:LI
 ok:Bool
def cQ(s:LI):PM:=if jS s=true then⟨mv s,np s,tf s,true⟩else⟨0,0,[],false⟩
def Hr(w:World):Prop:=∀(i:Nat) (x:Int),CE[i]? =some x->w.cell? ⟨0,i,none⟩=some (iW x)
def ml(I:aH):Prop:=∀w,fP w I->Hr w
theorem ml.at_(A:ml I)(h:St I w L):Hr w:=by
 obtain⟨M,d,K,Q,_⟩:=h;exact A w (Q.le K)
theorem Hr.get(h:Hr w){j:Nat}(N:j<16):w.cell? ⟨0,j,none⟩=some (iW (CE.getD j 0)):=by
 refine h j _ ?_;rw[NP,gP (show j<CE.length from N)]
 rfl
theorem Jj(s:Int)(b:LI)(c:Int):o9 s (b++[c])=Fw (o9 s b) c:=by simp[o9]
theorem Zu(v:Value)(T:LI)(w:World)(u:Hr w)(B:Bytes T)(K:aA w .u8 v T):
 Calls prog 174 #[v] w λe O=>e= .returned (iW (rp T))/\∃n,O=w.drewN n:=by
 obtain⟨A,A0,rfl,_,Y,z⟩:=K;unfold maxLen at Y;obtain⟨n,y⟩:=nM (T.length);rw[<-y]at z⊢;refine Cz y z B u (show rp T=bits .xor .u32 4294967295 (o9 4294967295 T)from rfl) λb g C r E=>?_;clear z B u y
 go_enter func174,ntmps174
 go_wp2_with fail
 go_loopg [3,8] n (λQ F t wr=>∃k:Nat,Q=n-k/\k<=n/\t= iI (k:Nat)/\F= iW (o9 4294967295 (T.take k))/\∃q,wr=w.drewN q)
 case atStart=>exact⟨0,rfl,jG _,rfl,rfl,0,rfl⟩
 case round=>
  obtain⟨k,G,hk,rfl,rfl,q,rfl⟩:=hrel;refine ib G (Gm 4294967295 (T.take k) dC) (show o9 4294967295 (T.take k)=o9 4294967295 (T.take k)from rfl) λR HR J=>?_;clear G;by_cases N:k<n
  ·have Z:k<T.length:=by rw[<-b.out];exact N
   obtain⟨ad,x,rfl,_,_,j,B0⟩:=Sl.at_ g N;rw[wO,gP Z]at j;obtain rfl: .int .u8 T[k]=x:=by injection j
   have D:=C.out _ (Sp Z);have V:=aa (show o9 4294967295 (T.take (k+1))=Fw (o9 4294967295 (T.take k)) T[k]by
    rw[Et,gP Z];exact Jj _ _ _)
   generalize T[k]=X at*;generalize o9 4294967295 (T.take k)=S at*;have hw:IntKind.u32.wrap X=X:=by
    unfold isByte at D;have:IntKind.u32.wrap X=X%4294967296:=rfl;omega
   obtain⟨W,c⟩:∃W,bits .xor .u32 S X=W:=⟨_,rfl⟩;obtain⟨P,l⟩:∃P:Nat,bits .and .u32 W 15=(P:Int):=⟨(bits .and .u32 W 15).toNat,by have:=De W;omega⟩;have U:P<16:=by have:=De W;omega
   have c1:=r.get U;obtain⟨d,a⟩:∃d,bits .xor .u32 (W/16) (CE.getD P 0)=d:=⟨_,rfl⟩;obtain⟨M,L⟩:∃M:Nat,bits .and .u32 d 15=(M:Int):=⟨(bits .and .u32 d 15).toNat,by have:=De d;omega⟩;have p:M<16:=by have:=De d;omega
   have c2:=r.get p;obtain⟨H,o⟩:∃H,bits .xor .u32 (d/16) (CE.getD M 0)=H:=⟨_,rfl⟩;have i:=aa (show Fw S X=H by
    unfold Fw RY;rw[c,l,qG,a,L,qG,o])
   generalize CE.getD P 0=t1 at*;generalize CE.getD M 0=t2 at*;have C0:(0:Int)<=(P:Int):=oM
   have D0:(P:Int)<16:=oM
   have E0:(0:Int)<=(M:Int):=oM
   have F0:(M:Int)<16:=oM
   clear j D
   go_wp2_with fail
   go_roundg (n-(k+1))
   case measure=>exact aec
   case rel=>exact⟨k+1,rfl,oM,by go_num,by rw[V.out,i.out],_,rfl⟩
  ·obtain rfl:k=n:=oM
   have I:T.take k=T:=nS ac7;rw[I]at*;clear J
   go_wp2_with fail
   go_ret
   exact⟨by rw[E.out];rfl,_,rfl⟩
theorem Pv(A:ml I)(v:Value)(T:LI)(w:World)(B:Bytes T)(J:aA w .u8 v T)(h:St I w L):
 Rt I w 174 #[v] (iW (rp T)) L:=by
 refine(Zu v T w (A.at_ h) B J).mono ?_;rintro e O⟨Y,n,rfl⟩;exact⟨Y,h.drewN n⟩
theorem jj{t u v:Tmp}(h:fn.results= #[.tmp t,.tmp u,.tmp v])(b:Vq)(P:Program)(w:World):
 (results fn b).run P w= .ok (.tuple #[b.getD t undef,b.getD u undef,b.getD v undef]) w:=by
 simp[results,h]
theorem qp{t u v x:Tmp}(h:fn.results= #[.tmp t,.tmp u,.tmp v,.tmp x])(b:Vq)(P:Program)(w:World):
 (results fn b).run P w= .ok (.tuple #[b.getD t undef,b.getD u undef,b.getD v undef,b.getD x undef]) w:=by
 simp[results,h]
theorem St.abe{Y:Addr}{c:Nat}(h:St I w (ai .u8 (.slice (some Y) 64 c) s::L)):St I w (ai .u8 (.slice (some Y) 52 c) (s.take 52)::ai .u8 (.slice (some Y) 64 c) s::L):=
 (h.copy 0 rfl).bu (λ_ z=>z.cut oM)
theorem St.Zj{Y:Addr}{c:Nat}(h:St I w (ai .u8 (.slice (some Y) 64 c) s::L)):St I w (ai .u8 (.slice (some (Y.add 52)) 12 (c-52)) (s.drop 52)::ai .u8 (.slice (some Y) 64 c) s::L):=
 (h.copy 0 rfl).bu (λ_ z=>z.drop (m:=52) oM (some (Y.add 52)) (λ_=>rfl))
theorem Rd.iR(T:LI)(k:Nat)(Z:1<=k)(S:k<=8)(F:k<=T.length):Rd.num ⟨T,false⟩ (k:Int)=(ik (T.take k),⟨T.drop k,false⟩):=by
 have e:Rd.size ⟨T,false⟩ (k:Int)=k:=by
  unfold Rd.size;rw[iN oM];omega
 unfold Rd.num;rw[e];unfold Rd.take;rw[iN acC]
theorem Xh(h:s.length=64):Rd.num ⟨s.take 52,false⟩ 4=(mv s,⟨(s.take 52).drop 4,false⟩):=by
 have:=Rd.iR (s.take 52) 4 oM oM acT;rw[OR]at this;exact this
theorem WG(h:s.length=64):Rd.num ⟨(s.take 52).drop 4,false⟩ 4=(np s,⟨(s.take 52).drop 8,false⟩):=by
 have:=Rd.iR ((s.take 52).drop 4) 4 oM oM (by rw[km,fJ];omega);rw[show((s.take 52).drop 4).take 4=(s.drop 4).take 4 by rw[Yp,OR];rfl,Fj]at this;exact this
theorem XK(h:s.length=64):Rd.num ⟨(s.take 52).drop 8,false⟩ 1=(xP s,⟨(s.take 52).drop 9,false⟩):=by
 have:=Rd.iR ((s.take 52).drop 8) 1 oM oM (by rw[km,fJ];omega);rw[show((s.take 52).drop 8).take 1=(s.drop 8).take 1 by rw[Yp,OR];rfl,Fj]at this;exact this
theorem Xz(h:s.length=64):Rd.num ⟨s.drop 52,false⟩ 4=(IM s,⟨s.drop 56,false⟩):=by
 have:=Rd.iR (s.drop 52) 4 oM oM acO;rw[Fj]at this;exact this
theorem Xx(h:s.length=64):Rd.num ⟨s.drop 56,false⟩ 4=(jh s,⟨s.drop 60,false⟩):=by
 have:=Rd.iR (s.drop 56) 4 oM oM acO;rw[Fj]at this;exact this
theorem Yf(h:s.length=64):Rd.num ⟨s.drop 60,false⟩ 4=(kX s,⟨s.drop 64,false⟩):=by
 have:=Rd.iR (s.drop 60) 4 oM oM acO;rw[Fj]at this;exact this
theorem fK(h:Bytes s)(o:Nat):0<=yN s o/\yN s o<4294967296:=by
 unfold yN;have Z:=iH ((h.drop o).take 4);have V:((s.drop o).take 4).length<=4:=by rw[fJ];omega
 have M:∀k,k<=4->(256:Int)^k<=4294967296:=dC
 have:=M _ V;omega
theorem Io(h:Bytes s):0<=xP s/\xP s<256:=by
 unfold xP;have Z:=iH ((h.drop 8).take 1);have V:((s.drop 8).take 1).length<=1:=by rw[fJ];omega
 have M:∀k,k<=1->(256:Int)^k<=256:=dC
 have:=M _ V;omega
theorem pV(h:jS s=true):cQ s=⟨mv s,np s,tf s,true⟩:=iP h
theorem mS(h:jS s=false):cQ s=⟨0,0,[],false⟩:=iN (by rw[h];exact gV)
theorem eT{x:Int}(h:0<=x/\x<4294967296):IntKind.u32.wrap x=x:=by
 have:IntKind.u32.wrap x=x%4294967296:=rfl;omega
theorem zb(hT:ml I)(A:OA)(n c:Nat)(s:LI)(w:World)(B:Bytes s)(_hl:s.length<=100000)(h:St I w (ai .u8 (.slice A n c) s::L)):
 Calls prog 132 #[.slice A n c] w λu O=>∃G p,u= .returned (.tuple #[iW (cQ s).q,iW (cQ s).e,.slice G (cQ s).b.length p,.bool (cQ s).ok])/\St I O (ai .u8 (.slice G (cQ s).b.length p) (cQ s).b::ai .u8 (.slice A n c) s::L):=by
 obtain⟨hn,Z0,W0,D0⟩:=(h.get 0 rfl).sl;by_cases N0:n=64
 ·subst N0
  obtain⟨Y,rfl,_⟩:=D0.2 oM;refine Cz hn.symm B (λa=>pV (s:=s) a) (λa=>mS (s:=s) a) (show tf s=(s.drop 9).take (xP s).toNat from rfl) λb K M0 M J0=>?_;have N:=fK B 0;have o:=fK B 4;have r3:=Io B;have Q:=fK B 52;have z:=fK B 56;have g:=fK B 60;have N:0<=mv s/\mv s<4294967296:=N;have o:0<=np s/\np s<4294967296:=o;have Q:0<=IM s/\IM s<4294967296:=Q;have z:0<=jh s/\jh s<4294967296:=z;have g:0<=kX s/\kX s<4294967296:=g;have w1:=eT N;have w2:=eT o;have w4:=eT Q;have w5:=eT z;have w6:=eT g;obtain⟨x,W⟩:∃x:Nat,xP s=(x:Int):=⟨(xP s).toNat,oM⟩;have w3:IntKind.i64.wrap (xP s)=(x:Int):=(IntWalk.i64_in _ oM).trans W;have X0:x<=255:=oM
  obtain⟨J,O0⟩:∃J,(mv s==0)=J:=⟨_,rfl⟩;obtain⟨U,P0⟩:∃U,(mv s !=jh s)=U:=⟨_,rfl⟩;obtain⟨E,Q0⟩:∃E,(np s !=kX s)=E:=⟨_,rfl⟩;obtain⟨D,B0⟩:∃D,decide ((x:Int)>43)=D:=⟨_,rfl⟩;have S0:decide ((43:Int)<(x:Int))=D:=B0;obtain⟨P,R0⟩:∃P,(IM s !=rp (s.take 52))=P:=⟨_,rfl⟩;have E0:=aa (show jS s= !(J||U||E||D||P)by
   unfold jS;rw[O0,P0,Q0,R0,W,B0,dZ b.out]
   rfl)
  have d0:((64:Int) !=64)=false:=El rfl;have T0:(52:Int)<=(c:Int):=oM
  have U0:¬c=52:=oM
  have V0:52<=c:=oM
  have K0:=aa W;have h0:=h;clear h D0 B _hl N o r3 Q z g W hn
  go_enter func132,ntmps132
  go_wp2_with fail
  refine ak (I:=I) (L0:=L) [⟨none,none,λe=>ai .u8 (.slice (some Y) 64 c) s⟩,⟨some 2,none,λe=>po (e 2).n ⟨s.take 52,false⟩⟩,⟨some 5,none,λe=>po (e 5).n ⟨s.drop 52,false⟩⟩] [[],[0],[0,1],[],[3],rG 5,rG 6,rG 7] (rG 8) rfl kR kR kR (by rfl) (λ_=>rfl) h0.fk ?_;refine lY ?_;refine kj (λe=> .slice (some Y) 52 c) rfl (λe wx r h=>gS) ?_;simp only[aR];refine aZ 133 (λe=> #[.slice (some Y) 52 c]) (λe=> .pointer (some ⟨(e 2).n,0,none⟩)) rfl (λe wx r h=>by(
   have h:=h.fn;refine(ox (.slice (some Y) 52 c) (s.take 52) _ (St.abe h)).mono ?_;rintro u wy⟨A0,rfl,Z⟩;exact⟨⟨none,A0,default⟩,rfl,Z.fk⟩)) ?_
  simp only[aR];refine lY ?_;refine kj (λe=> .slice (some (Y.add 52)) 12 (c-52)) rfl (λe wx r h=>gS) ?_;simp only[aR];refine aZ 133 (λe=> #[.slice (some (Y.add 52)) 12 (c-52)]) (λe=> .pointer (some ⟨(e 5).n,0,none⟩)) rfl (λe wx r h=>by(
   have h:=h.fn;refine(ox (.slice (some (Y.add 52)) 12 (c-52)) (s.drop 52) _ (St.Zj h)).mono ?_;rintro u wy⟨A0,rfl,Z⟩;exact⟨⟨none,A0,default⟩,rfl,Z.fk⟩)) ?_
  simp only[aR];refine vM ?_;refine ax ?_;intro e w1 h;have h:=h.fn;obtain⟨l,C0⟩:∃l,(e 2).n=l:=⟨_,rfl⟩;obtain⟨t,H0⟩:∃t,(e 5).n=t:=⟨_,rfl⟩;rw[C0,H0]at h;have H1:=aa h;clear h h0
  go_wp2_with fail
  rw[C0];have X:=aa (show Rd.Ok ⟨s.take 52,false⟩from⟨K.take _,by show(s.take 52).length<=_;rw[fJ];omega,λh=>by cases h⟩);have d:=aa (show Rd.Ok ⟨s.drop 52,false⟩from⟨K.drop _,by show(s.drop 52).length<=_;rw[km,b.out];omega,λh=>by cases h⟩);refine(bM l _ 4 _ X.hb X.hl X.hz (H1.fi 1)).mono ?_;rintro u v1⟨rfl,h⟩;have F:=aa (X.num 4);rw[Xh b.out]at h F⊢;have H2:=aa h;clear h H1
  go_wp2_with fail
  refine(bM l _ 4 _ F.hb F.hl F.hz H2).mono ?_;rintro u v2⟨rfl,h⟩;have S:=aa (F.num 4);rw[WG b.out]at h S⊢;have H3:=aa h;clear h H2
  go_wp2_with fail
  refine(bM l _ 1 _ S.hb S.hl S.hz H3).mono ?_;rintro u v3⟨rfl,h⟩;rw[XK b.out]at h⊢;have H4:=aa (h.fi 2);clear h H3
  go_wp2_with fail
  refine(bM t _ 4 _ d.hb d.hl d.hz H4).mono ?_;rintro u v4⟨rfl,h⟩;have j:=aa (d.num 4);rw[Xz b.out]at h j⊢;have H5:=aa h;clear h H4
  go_wp2_with fail
  refine(bM t _ 4 _ j.hb j.hl j.hz H5).mono ?_;rintro u v5⟨rfl,h⟩;have H:=aa (j.num 4);rw[Xx b.out]at h H⊢;have H6:=aa h;clear h H5
  go_wp2_with fail
  refine(bM t _ 4 _ H.hb H.hl H.hz H6).mono ?_;rintro u v6⟨rfl,h⟩;rw[Yf b.out]at h⊢;have C:=aa (h.pk 2 []);clear h H6 C0 H0;have V:=aa (Pv hT (.slice (some Y) 52 c) (s.take 52) _ (K.take _) ((C.get 0 rfl).cut oM) C);generalize mv s=q at*;generalize np s=ep at*;generalize jh s=ag at*;generalize kX s=al at*;generalize IM s=sa at*;generalize rp (s.take 52)=sm at*
  cases J
  case' true=>skip
  case' false=>cases U
  case' false.true=>skip
  case' false.false=>cases E
  case' false.false.true=>skip
  case' false.false.false=>cases D
  case' false.false.false.true=>skip
  case' false.false.false.false=>cases P
  case false.false.false.false.false=>
   have y:=aa (M0 E0);have Y0:x<=43:=by have:=of_decide_eq_false B0;omega
   have x1:IntKind.i64.wrap (9+(x:Int))=((9+x:Nat):Int):=(IntWalk.i64_in _ oM).trans oM;have x2:(9:Int)<=((9+x:Nat):Int):=oM
   have x3:((9+x:Nat):Int)<=(c:Int):=oM
   have x4:¬c=9:=oM
   go_wp2_with (go_at_call 174;refine V.mono ?_;rintro u v7⟨rfl,h⟩;have T:=aa h;clear h C V)
   have HC:=aa (show aA _ .u8 (.slice (some (Y.add 9)) x (c-9)) ((s.drop 9).take x)from by
    have Z:=(T.get 0 rfl).drop (m:=9) oM (some (Y.add 9)) (λ_=>rfl);exact Z.cut (m:=x) oM)
   refine(dY (some (Y.add 9)) x (c-9) ((s.drop 9).take x) _ HC.sl.2.2.2 oM T).mono ?_;rintro u v8⟨v,rfl,h⟩;have G0:((s.drop 9).take x).length=x:=HC.sl.1.symm;obtain⟨G,p,rfl⟩:=h.slice;have F0:tf s=(s.drop 9).take x:=by rw[J0.out,K0.out,qG]
   have i:=aa (St.ints (k:= .u8) (xs:=(s.drop 9).take x) h);clear h T
   go_wp2_with fail
   ((try simp only[Exit.inBlock,Exit.then]);refine bodyPost_ret (qp rfl _ _ _) rfl ?_)
   exact⟨G,p,by rw[y.out];show _=Ending.returned (.tuple #[_,_,.slice G (tf s).length p,_]);rw[F0,G0];rfl,by rw[y.out];show St I _ (ai .u8 (.slice G (tf s).length p) (tf s)::_);rw[F0,G0];exact i.out⟩
  all_goals
   refine bm (M E0) (C.bG (R:=λw=>aA w .u8 sN []) (λO _=>aA.none_ O .u8)) λy i=>?_
   go_wp2_with (go_at_call 174;refine V.mono ?_;rintro u v7⟨rfl,h⟩;clear i;have i:=aa (h.bG (R:=λw=>aA w .u8 sN []) (λO _=>aA.none_ O .u8));clear h)
   ((try simp only[Exit.inBlock,Exit.then]);refine bodyPost_ret (qp rfl _ _ _) rfl ?_)
   exact⟨none,0,by rw[y.out];rfl,by rw[y.out];exact i.out⟩
 ·have d0:((n:Int) !=64)=true:=OC oM
  have a:jS s=false:=by
   unfold jS;rw[decide_eq_false (by omega)]
   rfl
  refine bm (mS a) (h.bG (R:=λw=>aA w .u8 sN []) (λO _=>aA.none_ O .u8)) λM I0=>?_;clear h D0 a hn
  go_enter func132,ntmps132
  go_wp2_with fail
  ((try simp only[Exit.inBlock,Exit.then]);refine bodyPost_ret (qp rfl _ _ _) rfl ?_)
  exact⟨none,0,by rw[M.out];rfl,by rw[M.out];exact I0.out⟩
section
open Go.Shelf
attribute [local go_sem] Oper.semAt_some
structure WU where
 at_:Int
 q:Int
 b:LI
def cn(D:DS)(i:Int):PM:=cQ (D.read i)
def wP(p:PM):Bool:=p.ok&&(p.e==0)
def eR(D:DS)(i:Int)(o:WU):WU:=if wP (cn D i)=true/\(cn D i).q>o.q then⟨i,(cn D i).q,(cn D i).b⟩else o
def dH(D:DS)(a:Int):Nat->WU
 |0=>⟨a+1,0,[]⟩
 |j+1=>eR D (a+j) (dH D a j)
def aK(D:DS)(a:Int):WU:=dH D a 2
theorem DS.fU{D:DS}(h:Bytes D.seen)(i:Int):Bytes (D.read i):=by
 unfold DS.read
 split
 ·exact Bytes.nil
 ·exact(h.drop _).take _
theorem DS.rH(D:DS)(i:Int):(D.read i).length<=64:=by
 unfold DS.read
 split
 ·exact acy
 ·unfold DS.at_
  exact acT
theorem iJ(h:Bytes s):0<=(cQ s).q/\(cQ s).q<4294967296/\0<=(cQ s).e/\(cQ s).e<4294967296/\(cQ s).b.length<=43:=by
 unfold cQ
 split
 ·rename_i a
  refine⟨(fK h 0).1,(fK h 0).2,(fK h 4).1,(fK h 4).2,?_⟩;show(tf s).length<=43;unfold tf;rw[fJ];unfold jS at a;simp only[mq,zcH,Yw,decide_eq_false_iff_not]at a;omega
 ·refine⟨dC,dC,dC,dC,by simp⟩
theorem mQ(h:Bytes s):Bytes (cQ s).b:=by
 unfold cQ
 split
 ·exact(h.drop _).take _
 ·exact Bytes.nil
theorem iG{D:DS}(h:Bytes D.seen)(a:Int):∀j,0<=(dH D a j).q/\(dH D a j).q<4294967296/\(dH D a j).b.length<=43/\Bytes (dH D a j).b
 |0=>⟨ef 0,by show(0:Int)<4294967296;decide,by simp[dH],Bytes.nil⟩
 |j+1=>by
  unfold dH eR
  split
  ·have:=iJ (DS.fU h (a+j))
   exact⟨this.1,this.2.1,this.2.2.2.2,mQ (DS.fU h (a+j))⟩
  ·exact iG h a j
theorem mX(D:DS)(a:Int):∀j,j<=2->(dH D a j).at_=a\/(dH D a j).at_=a+1
 |0,_=> .inr rfl
 |1,_=>by
  unfold dH eR
  split
  ·left
   show a+((0:Nat):Int)=a;omega
  ·exact mX D a 0 oM
 |2,_=>by
  unfold dH eR
  split
  ·exact .inr rfl
  ·exact mX D a 1 oM
 |j+3,h=>oM
def Fy(g:Nat)(o:WU):aw:=AU λv=>aX (ab g 258 #[iI o.at_,iW o.q,v]) (ai .u8 v o.b)
theorem St.Zl{g:Nat}{o:WU}(h:St I w (Fy g o::L)):∃A c,St I w (ab g 258 #[iI o.at_,iW o.q,.slice A o.b.length c]::ai .u8 (.slice A o.b.length c) o.b::L):=by
 obtain⟨v,h⟩:=h.ex;have Z:=h.star;obtain⟨A,c,rfl,_⟩:=Z.get 1 rfl;exact⟨A,c,Z⟩
theorem St.Xe{g:Nat}{o:WU}(h:St I w (ab g 258 #[iI o.at_,iW o.q,v]::ai .u8 v o.b::L)):St I w (Fy g o::L):=St.cZ v h.aM
theorem Ug(hT:ml I)(g:Nat)(D:DS)(a:Int)(x U V m:Nat)(T:Nat->List aw)(w:World)(E:D.ok)(B:Bytes D.seen)(ha:0<=a/\a<=100000)
 (c:∀j,j<2->wP (cn D (a+(j:Nat)))=false->T (j+1)=T j)
 (L:∀(j:Nat) (W:World) (R:OA) (p:Nat),j<2->wP (cn D (a+(j:Nat)))=true->St I W (ai .u8 (.slice R (cn D (a+(j:Nat))).b.length p) (cn D (a+(j:Nat))).b::ab x 3 #[iI a]::ab U 49 #[pO g]::da g D::T j)->
  YieldAt Fence.wide (m-1) prog V #[.agg #[iI (a+(j:Nat)),iW (cn D (a+(j:Nat))).q,.slice R (cn D (a+(j:Nat))).b.length p]] W λe W'=>e= .returned (.bool true)/\St I W' (ab x 3 #[iI a]::ab U 49 #[pO g]::da g D::T (j+1)))
 (h:St I w (ab x 3 #[iI a]::ab U 49 #[pO g]::da g D::T 0)):
 CallsIn Fence.wide m prog 204 #[.func (.yield V) #[] #[],pO x,pO U] w λe A0=>(∃v,e= .returned v)/\St I A0 (ab x 3 #[iI a]::ab U 49 #[pO g]::da g D::T 2):=by
 refine Cz L c E B h λHY n l Z H=>?_;have o:=(h.ah 0 rfl).cell 0;clear h L c E B;refine callsIn_of_wp func204 rfl trivial ?_ rfl;simp only[ntmps204,So,oO,OV,Nat.reduceAdd,Nat.reduceSub,Yt,Yj,YE,YC,xL,MV]
 gi_wp2_with fail
 clear o
 gi_loopw [4] (λi wr=>∃(j:Nat) (k:Int),k=a+(j:Nat)/\j<=2/\i= iI k/\St I wr (ab x 3 #[iI a]::ab U 49 #[pO g]::da g D::T j)) (λi _=>(a+2-intOf i).toNat)
 case atStart=>exact⟨0,a,oM,oM,rfl,H⟩
 case round=>
  clear H;obtain⟨j,k,F,hj,rfl,h⟩:=hrel;have o:=(h.ah 0 rfl).cell 0;have y1:=(h.ah 1 rfl).cell 0;refine bm (λW R p=>HY j W R p) (n j) λC d=>?_;rw[<-F]at C d;refine bm F h λu H=>?_;have G0:0<=k:=oM
  have H0:k<=200000:=oM
  have wa:IntKind.i64.wrap (a+1)=a+1:=IntWalk.i64_in _ oM;by_cases Q:j<2
  ·have d1:decide (k<=a+1)=true:=decide_eq_true (by omega)
   clear h F
   gi_wp2_with fail
   refine⟨trivial,λq=>by simp[Fence.wide]at q,(callsIn_wide.2 (vI k l (H.fi 2))).mono ?_⟩;rintro e w1⟨A,c1,rfl,h⟩;have r:=aa h;clear h H o y1
   gi_wp2_with fail
   refine⟨trivial,λq=>by simp[Fence.wide]at q,(callsIn_wide.2 (zb hT A _ c1 _ _ (DS.fU Z k) (by have:=DS.rH D k;omega) r)).mono ?_⟩;rintro e X⟨t,c2,rfl,h⟩;have z:cn D k=cQ (D.read k):=rfl;rw[<-z]at h⊢;have N:=aa (h.pk 5 [0,3,4,2]);clear h r z;have b:wP (cn D k)=((cn D k).ok&&((cn D k).e==0)):=rfl;refine bm (λG=>C X t c2 Q G N) (d Q) λC d=>?_;have o:=(N.ah 1 rfl).cell 0;obtain⟨O,K⟩:∃O,(cn D k).ok=O:=⟨_,rfl⟩;obtain⟨J,C0⟩:∃J,((cn D k).e==0)=J:=⟨_,rfl⟩;rw[K,C0]at b;rw[K];by_cases S:(O&&J)=true
   ·obtain⟨fn,tm,E0,F0,hy,y⟩:=C.out (b.trans S)
    have B0:O=true/\J=true:=by simpa using S
    obtain⟨rfl,rfl⟩:=B0;generalize(cn D k).q=pq at*;generalize(cn D k).e=pe at*;generalize(cn D k).b=pb at*;clear S b C d K
    gi_wp2_with fail
    refine⟨λq=>by simp[Fence.wide]at q,y.mono ?_⟩;rintro e W3⟨rfl,M⟩;have P:=aa M;clear M y hy N o
    exact aez
   ·have Y:=aa (d (by rw[b];simpa using S))
    have P:=aa (show St I X (ab x 3 #[iI a]::ab U 49 #[pO g]::da g D::T (j+1))by rw[Y.out];exact N.tail);generalize(cn D k).q=pq at*;generalize(cn D k).e=pe at*;generalize(cn D k).b=pb at*;clear b C d K N
    cases O
    case' true=>cases J
    case' true.true=>exact absurd rfl S
    all_goals
     clear S
     gi_wp2_with fail
     refine⟨λf hf=>(by cases hf),?_⟩
     exact aez
  ·have D0:j=2:=oM
   subst D0;have d1:decide (k<=a+1)=false:=decide_eq_false (by omega);have P:=aa h;clear h F C d H
   gi_wp2_with fail
   go_end0
   exact⟨⟨_,rfl⟩,P⟩
theorem Jx(g:Nat)(a:Int)(w:World)(h:St I w L):
 Calls prog 176 #[pO g,iI a] w λe O=>∃x U,e= .returned (.func (.func 204) #[] #[pO x,pO U])/\St I O (ab x 3 #[iI a]::ab U 49 #[pO g]::L):=by
 have H:=aa ((h.alloc 49 #[pO g]).alloc 3 #[iI a]);clear h
 go_enter func176,ntmps176
 go_wp2_with fail
 go_ret
 exact⟨_,_,rfl,by have h:=H.out;rwa[World.size_alloc]at h⟩
end
section
open Go.Shelf
attribute [local go_sem] Oper.semAt_some
theorem MT{y D:Nat}{fn:FuncId}{tmps args:Vq}{A:Array Tmp}{assign b:Code}{W:World}{n:Nat}(L':List aw)(d:Act->List aw->Prop)
 (h:St I W (ff y (.loop (tL fn tmps A assign b D .ready))::L)) (U:args.size=A.size)
 (a:∀(K:Act->World->Prop),(∀(T:Act) (O:World) (u:List aw),d T u->St I O (ff y (.loop (tL fn tmps A assign b D .ready))::u)->K T O)->assign.wpIn (Fence.wide.inRound y) n P (Exit.then K (λ_ _ _=>False)) {tmps:=(A.zip args).foldl (λt (p,v)=>t.setIfInBounds p v) tmps,defers:=[]} W)
 (c:∀(T:Act) (O:World) (u:List aw),d T u->St I O (ff y (.loop (tL fn tmps A assign b D .busy))::u)->b.wpIn (Fence.wide.inRound y) n P (λe _ k=>e= .normal/\St I k (ff y (.loop (tL fn tmps A assign b D .busy))::L')) T O):
 YieldAt Fence.wide n P y args W λe k=>e= .returned (.bool true)/\St I k (ff y (.loop (tL fn tmps A assign b D .ready))::L'):=by
 have C:=h.obj 0 rfl;refine⟨fn,_,assign,b,run_yield C U,roundIn_of_wpIn trivial (a _ (λT O u S Z=>⟨_,run_beginRound (Z.obj 0 rfl) rfl,?_⟩))⟩;refine wpIn_mono (c T _ u S (Z.ul _)) ?_;exact ae9
theorem th{t:Nat}{X:TypeId}{a:Addr}(h:fn.results= #[.cell t X])(b:Vq)(Q:b.getD t undef= .pointer (some a))(C:(loadVar X a).run P w= .ok v w):
 (results fn b).run P w= .ok v w:=by
 exact aef
theorem St.SZ{L R:List aw}{b:Nat}{o:Obj}(h:St I w L)(z:At (ff b o) L R:=by exact aU):w.heap[b]? =some o:=by
 obtain⟨m,y⟩:=z.idx;exact h.obj m y
theorem KY(hT:ml I)(g:Nat)(D:DS)(a:Int)(w:World)(ho:D.ok)(hb:Bytes D.seen)(ha:0<=a/\a<=100000)(h:St I w (da g D::L)):
 Calls prog 139 #[pO g,iI a] w λe O=>∃A c,e= .returned (.agg #[iI (aK D a).at_,iW (aK D a).q,.slice A (aK D a).b.length c])/\St I O (ai .u8 (.slice A (aK D a).b.length c) (aK D a).b::da g D::L):=by
 have wa:IntKind.i64.wrap (a+1)=a+1:=IntWalk.i64_in _ oM;have F:=h.alloc 258 #[iI 0,iW 0,sN];have V:=(F.bG (R:=λw=>aA w .u8 sN []) (λO _=>aA.none_ O .u8)).alloc 258 #[iI (a+1),iW 0,sN];rw[World.size_alloc]at V;refine ib (show St I _ (Fy (w.heap.size+1) (dH D a 0)::ab w.heap.size 258 #[iI 0,iW 0,sN]::da g D::L)from St.Xe (o:=dH D a 0) (V.pk 0 [])) ho hb λH HO HB=>?_;clear h ho hb F V;refine(callsIn_wide (n:=12)).1 ?_;refine callsIn_of_wp_marks func139 rfl trivial ?_ rfl;simp only[ntmps139,So,oO,OV,Nat.reduceAdd,Nat.reduceSub,Yt,Yj,YE,YC,xL,MV]
 gi_wp2_with fail
 refine⟨trivial,(callsIn_wide.2 (Jx g a _ H)).mono ?_⟩;rintro e w1⟨x,U,rfl,h⟩;obtain⟨i,S⟩:=nM (w.heap.size);obtain⟨t,Z⟩:=nM (w.heap.size+1);rw[<-Z,<-S]at h;rw[<-Z,<-S];have H1:=aa h;clear h H S Z
 gi_wp2_with fail
 refine uJ (n:=12) (gf:=204) (lb:= #[pO x,pO U]) rfl (enters_of func204 kR rfl) H1 ?_;intro fn y q W1 G0;refine(Ug hT g D a x U y 11 (λj=>ff y (.loop _)::ff q (.deferred (some []))::Fy t (dH D a j)::ab i 258 #[iI 0,iW 0,sN]::L) W1 HO HB ha ?_ ?_ (G0.sub)).mono ?_
 ·intro j hj G
  show ff y _::ff q _::Fy t (dH D a (j+1))::_=ff y _::ff q _::Fy t (dH D a j)::_;rw[show dH D a (j+1)=dH D a j from iN (by rw[G];simp)]
 ·intro j A0 N X hj G J
  have key:=MT (P:=prog) (n:=10) (L':=ff q (.deferred (some []))::ab x 3 #[iI a]::ab U 49 #[pO g]::da g D::Fy t (dH D a (j+1))::ab i 258 #[iI 0,iW 0,sN]::L) (λB u=>∃k:Nat,B={tmps:= #[pO g,iI a,undef,undef,pO i,pO t,pO k,iI a,iI (a+1),.agg #[iI (a+1),iW 0,sN],pO g,iI a,.func (.func 204) #[] #[pO x,pO U],.agg #[iI (a+(j:Nat)),iW (cn D (a+(j:Nat))).q,.slice N (cn D (a+(j:Nat))).b.length X],undef,undef,undef,undef,undef,undef,undef],defers:=[]}/\u=ab k 258 #[iI (a+(j:Nat)),iW (cn D (a+(j:Nat))).q,.slice N (cn D (a+(j:Nat))).b.length X]::ai .u8 (.slice N (cn D (a+(j:Nat))).b.length X) (cn D (a+(j:Nat))).b::ff q (.deferred (some []))::ab x 3 #[iI a]::ab U 49 #[pO g]::da g D::Fy t (dH D a j)::ab i 258 #[iI 0,iW 0,sN]::L) (args:= #[.agg #[iI (a+(j:Nat)),iW (cn D (a+(j:Nat))).q,.slice N (cn D (a+(j:Nat))).b.length X]]) (J.front) rfl ?_ ?_
  ·obtain⟨E0,H0,B0,C0,hy,hR⟩:=key
   refine⟨E0,H0,B0,C0,hy,hR.mono ?_⟩;rintro e W'⟨Y,Q⟩;exact⟨Y,Q.sub⟩
  ·intro I0 hK
   gi_wp2
   exact hK _ _ _ ⟨A0.heap.size,rfl,rfl⟩ ((J.alloc 258 #[iI (a+(j:Nat)),iW (cn D (a+(j:Nat))).q,.slice N (cn D (a+(j:Nat))).b.length X]).sub)
  ·rintro B W2 u⟨k,rfl,rfl⟩ V
   refine bm (show dH D a (j+1)=if wP (cn D (a+(j:Nat)))=true/\(cn D (a+(j:Nat))).q>(dH D a j).q then⟨a+(j:Nat),(cn D (a+(j:Nat))).q,(cn D (a+(j:Nat))).b⟩else dH D a j from rfl) G λE HR=>?_;clear G J;generalize cn D (a+(j:Nat))=p at*;generalize dH D a (j+1)=o2 at*;generalize dH D a j=o at*;have M:=V.fi 7;obtain⟨K,C,Q⟩:=M.Zl;have y1:=(Q.ah 0 rfl).cell 1;have x1:=(Q.ah 3 rfl).cell 1;by_cases T:p.q>o.q
   ·have d1:decide (p.q>o.q)=true:=dZ T
    have D0:decide (o.q<p.q)=true:=d1;have x0:=(Q.ah 3 rfl).cell 0;have x2:=(Q.ah 3 rfl).cell 2;have y0:=(Q.ah 0 rfl).cell 0;have y2:=(Q.ah 0 rfl).cell 2;have f:=(Q.ah 0 rfl).frozen;refine bm Q (E.trans (iP ⟨HR,T⟩)) λd l=>?_;clear V M Q T E
    gi_wp2_with fail
    rw[l.out];have h5:=((d.br 0 (iI (a+(j:Nat))) #[iI (a+(j:Nat)),iW o.q,.slice K o.b.length C]).br 1 (iW p.q) #[iI (a+(j:Nat)),iW p.q,.slice K o.b.length C]).br 2 (.slice N p.b.length X) #[iI (a+(j:Nat)),iW p.q,.slice N p.b.length X];exact(St.Xe (v:= .slice N p.b.length X) (o:=⟨a+(j:Nat),p.q,p.b⟩) (h5.pk 5 [0,4,2])).sub
   ·have d1:decide (p.q>o.q)=false:=dQ T
    have D0:decide (o.q<p.q)=false:=d1;refine bm (E.trans (iN (λh=>T h.2))) Q λl d=>?_;clear V M Q T E
    gi_wp2_with fail
    rw[l.out];exact(St.Xe (o:=o) (d.pk 5 [0,1,2])).sub
 ·rintro e W2⟨Y,V⟩
  refine⟨Y,_,V.pk 7 [3,4,5,6,2],?_⟩;intro W3 M;obtain⟨z,r,Q⟩:=(M.fi 1).Zl;obtain⟨y0,y1,y2⟩:=(Q.ah 0 rfl).three;obtain⟨z0,z1,z2⟩:=(Q.ah 3 rfl).three;have f:=(Q.ah 3 rfl).frozen;have hD:=Q.SZ (o:= .deferred (some [])) (b:=q);have E:=aa (show aK D a=dH D a 2 from rfl);generalize dH D a 2=o at*;have H6:=aa Q;clear M Q V
  gi_wp2_with fail
  have W:=(((H6.fi 3).br 0 (iI o.at_) #[iI o.at_,iW 0,sN]).br 1 (iW o.q) #[iI o.at_,iW o.q,sN]).br 2 (.slice z o.b.length r) #[iI o.at_,iW o.q,.slice z o.b.length r];have F0:=W.SZ (o:= .deferred (some [])) (b:=q);refine⟨by simp,.inl ⟨_,_,rfl,run_takeDeferred F0,?_⟩⟩;have h8:=(W.fi 3).ul (.deferred none);obtain⟨c0,c1,c2⟩:=(h8.ah 1 rfl).three;refine⟨.agg #[iI o.at_,iW o.q,.slice z o.b.length r],th rfl _ rfl gS,z,r,by rw[E.out],?_⟩;rw[E.out];exact h8.sub
end
end Go.Proofs.YtblpaldggenbaaaGreatDoor
