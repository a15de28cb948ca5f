/- A part. -/
import Derived.Test.YtblpaldggenbaaaGreatDoorMf
import Derived.Test.YtblpaldggenbaaaGreatDoorMc
namespace Go.Proofs.YtblpaldggenbaaaGreatDoor
open Go.RowKit Go.Proofs.Tryz
set_option maxRecDepth 100000
set_option maxHeartbeats 64000000
variable{L:List az}{I:aK}{w:World}{s:LI}{D:DS}{b:LI}{k:Nat}{P:Program}{fn:Func}
def CJ:LI:=[0,498536548,997073096,651767980,1994146192,1802195444,1303535960,1342533948,3988292384,4027552580,3604390888,3412177804,2607071920,2262029012,2685067896,3183342108]
def RC(s:Int):Int:=bits .xor .u32 (s/16) (CJ.getD (bits .and .u32 s 15).toNat 0)
def Ft(s c:Int):Int:=RC (RC (bits .xor .u32 s c))
def pg(s:Int)(b:LI):Int:=b.foldl Ft s
def rB(b:LI):Int:=bits .xor .u32 4294967295 (pg 4294967295 b)
theorem wrap_u32(x:Int):0<=IntKind.u32.wrap x/\IntKind.u32.wrap x<4294967296:=by
 have:IntKind.u32.wrap x=x%4294967296:=rfl;rw[this];omega
theorem Fz(t:BinOp)(x y:Int):0<=bits t .u32 x y/\bits t .u32 x y<4294967296:=wrap_u32 _
theorem Dh(x:Int):0<=bits .and .u32 x 15/\bits .and .u32 x 15<16:=by
 have h:bits .and .u32 x 15=(((BitVec.ofInt 32 x)&&&(BitVec.ofInt 32 15)).toNat:Int)%4294967296:=rfl;have G:((BitVec.ofInt 32 x)&&&(BitVec.ofInt 32 15)).toNat<=15:=by
  rw[BitVec.toNat_and];exact Nat.and_le_right
 rw[h];omega
theorem IC(s:Int):0<=RC s/\RC s<4294967296:=Fz _ _ _
theorem zl(b:LI):0<=rB b/\rB b<4294967296:=Fz _ _ _
theorem Gf(s:Int)(b:LI)(h:0<=s/\s<4294967296):0<=pg s b/\pg s b<4294967296:=by
 induction b generalizing s with
 |nil=>exact h
 |cons c b K=>exact K _ (IC _)
def lL(seq a:Int)(b:LI):LI:=aV seq 4++aV a 4++aV (b.length:Nat) 1++b++bW (43-b.length)
def aR(seq a:Int)(b:LI):LI:=lL seq a b++(aV (rB (lL seq a b)) 4++aV seq 4++aV a 4)
def yV(s:LI)(o:Nat):Int:=iq ((s.drop o).take 4)
def mj(s:LI):Int:=yV s 0
def nk(s:LI):Int:=yV s 4
def xW(s:LI):Int:=iq ((s.drop 8).take 1)
def Ix(s:LI):Int:=yV s 52
def jp(s:LI):Int:=yV s 56
def kY(s:LI):Int:=yV s 60
def jU(s:LI):Bool:=decide (s.length=64)&& !((mj s==0)||(mj s !=jp s)||(nk s !=kY s)||decide (xW s>43)||(Ix s !=rB (s.take 52)))
def tf(s:LI):LI:=(s.drop 9).take (xW s).toNat
structure PM where
 q:Int
 e:Int
 b:LI
 ok:Bool
def cW(s:LI):PM:=if jU s=true then⟨mj s,nk s,tf s,true⟩else⟨0,0,[],false⟩
def Hh(w:World):Prop:=∀(i:Nat) (x:Int),CJ[i]? =some x->w.cell? ⟨0,i,none⟩=some (iW x)
def kL(I:aK):Prop:=∀w,fQ w I->Hh w
theorem kL.at_(A:kL I)(h:St I w L):Hh w:=by
 obtain⟨M,d,K,T,_⟩:=h;exact A w (T.le K)
theorem Hh.get(h:Hh w){j:Nat}(H:j<16):w.cell? ⟨0,j,none⟩=some (iW (CJ.getD j 0)):=by
 refine h j _ ?_;rw[Iy,g7 (show j<CJ.length from H)]
 rfl
theorem IW(s:Int)(b:LI)(c:Int):pg s (b++[c])=Ft (pg s b) c:=by simp[pg]
theorem YB(v:Value)(N:LI)(w:World)(u:Hh w)(B:Bytes N)(J:ay w .u8 v N):
 Calls prog 174 #[v] w λe O=>e= .returned (iW (rB N))/\∃n,O=w.drewN n:=by
 obtain⟨A,A0,rfl,_,l,Z⟩:=J;unfold maxLen at l;obtain⟨n,W⟩:=nM (N.length);rw[<-W]at Z⊢;refine AS W Z B u (show rB N=bits .xor .u32 4294967295 (pg 4294967295 N)from rfl) λb g V H E=>?_;clear Z B u W
 go_enter func174,ntmps174
 go_wp2_with fail
 go_loopg [3,8] n (λU P R wr=>∃k:Nat,U=n-k/\k<=n/\R= iI (k:Nat)/\P= iW (pg 4294967295 (N.take k))/\∃q,wr=w.drewN q)
 case atStart=>exact⟨0,rfl,iD _,rfl,rfl,0,rfl⟩
 case round=>
  obtain⟨k,p,hk,rfl,rfl,q,rfl⟩:=hrel;refine iG p (Gf 4294967295 (N.take k) dC) (show pg 4294967295 (N.take k)=pg 4294967295 (N.take k)from rfl) λa HR D=>?_;clear p;by_cases t:k<n
  ·have K:k<N.length:=by rw[<-b.out];exact t
   obtain⟨ad,x,rfl,_,_,j,B0⟩:=Sl.at_ g t;rw[zA,g7 K]at j;obtain rfl: .int .u8 N[k]=x:=by injection j
   have F:=V.out _ (Oq K);have G:=aa (show pg 4294967295 (N.take (k+1))=Ft (pg 4294967295 (N.take k)) N[k]by
    rw[JU,g7 K];exact IW _ _ _)
   generalize N[k]=X at*;generalize pg 4294967295 (N.take k)=S at*;have hw:IntKind.u32.wrap X=X:=by
    unfold isByte at F;have:IntKind.u32.wrap X=X%4294967296:=rfl;omega
   obtain⟨d,z⟩:∃d,bits .xor .u32 S X=d:=⟨_,rfl⟩;obtain⟨r,y⟩:∃r:Nat,bits .and .u32 d 15=(r:Int):=⟨(bits .and .u32 d 15).toNat,by have:=Dh d;omega⟩;have c:r<16:=by have:=Dh d;omega
   have c1:=H.get c;obtain⟨L,Q⟩:∃L,bits .xor .u32 (d/16) (CJ.getD r 0)=L:=⟨_,rfl⟩;obtain⟨C,o⟩:∃C:Nat,bits .and .u32 L 15=(C:Int):=⟨(bits .and .u32 L 15).toNat,by have:=Dh L;omega⟩;have T:C<16:=by have:=Dh L;omega
   have c2:=H.get T;obtain⟨I,M⟩:∃I,bits .xor .u32 (L/16) (CJ.getD C 0)=I:=⟨_,rfl⟩;have i:=aa (show Ft S X=I by
    unfold Ft RC;rw[z,y,rE,Q,o,rE,M])
   generalize CJ.getD r 0=t1 at*;generalize CJ.getD C 0=t2 at*;have C0:(0:Int)<=(r:Int):=oM
   have D0:(r:Int)<16:=oM
   have E0:(0:Int)<=(C:Int):=oM
   have F0:(C:Int)<16:=oM
   clear j F
   go_wp2_with fail
   go_roundg (n-(k+1))
   case measure=>exact adI
   case rel=>exact⟨k+1,rfl,oM,by go_num,by rw[G.out,i.out],_,rfl⟩
  ·obtain rfl:k=n:=oM
   have Y:N.take k=N:=oJ ab9;rw[Y]at*;clear D
   go_wp2_with fail
   go_ret
   exact⟨by rw[E.out];rfl,_,rfl⟩
theorem OT(A:kL I)(v:Value)(N:LI)(w:World)(B:Bytes N)(J:ay w .u8 v N)(h:St I w L):
 Rt I w 174 #[v] (iW (rB N)) L:=by
 refine(YB v N w (A.at_ h) B J).mono ?_;rintro e O⟨Y,n,rfl⟩;exact⟨Y,h.drewN n⟩
theorem jr{t u v:Tmp}(h:fn.results= #[.tmp t,.tmp u,.tmp v])(b:Vq)(P:Program)(w:World):
 (results fn b).run P w= .ok (.tuple #[b.getD t undef,b.getD u undef,b.getD v undef]) w:=by
 simp[results,h]
theorem qn{t u v x:Tmp}(h:fn.results= #[.tmp t,.tmp u,.tmp v,.tmp x])(b:Vq)(P:Program)(w:World):
 (results fn b).run P w= .ok (.tuple #[b.getD t undef,b.getD u undef,b.getD v undef,b.getD x undef]) w:=by
 simp[results,h]
theorem St.aav{T:Addr}{c:Nat}(h:St I w (ai .u8 (.slice (some T) 64 c) s::L)):St I w (ai .u8 (.slice (some T) 52 c) (s.take 52)::ai .u8 (.slice (some T) 64 c) s::L):=
 (h.copy 0 rfl).bC (λ_ z=>z.cut oM)
theorem St.Yn{T:Addr}{c:Nat}(h:St I w (ai .u8 (.slice (some T) 64 c) s::L)):St I w (ai .u8 (.slice (some (T.add 52)) 12 (c-52)) (s.drop 52)::ai .u8 (.slice (some T) 64 c) s::L):=
 (h.copy 0 rfl).bC (λ_ z=>z.drop (m:=52) oM (some (T.add 52)) (λ_=>rfl))
theorem Rd.jc(N:LI)(k:Nat)(Z:1<=k)(W:k<=8)(Q:k<=N.length):Rd.num ⟨N,false⟩ (k:Int)=(iq (N.take k),⟨N.drop k,false⟩):=by
 have e:Rd.size ⟨N,false⟩ (k:Int)=k:=by
  unfold Rd.size;rw[iN oM];omega
 unfold Rd.num;rw[e];unfold Rd.take;rw[iN abS]
theorem We(h:s.length=64):Rd.num ⟨s.take 52,false⟩ 4=(mj s,⟨(s.take 52).drop 4,false⟩):=by
 have:=Rd.jc (s.take 52) 4 oM oM ab5;rw[Oz]at this;exact this
theorem VI(h:s.length=64):Rd.num ⟨(s.take 52).drop 4,false⟩ 4=(nk s,⟨(s.take 52).drop 8,false⟩):=by
 have:=Rd.jc ((s.take 52).drop 4) 4 oM oM (by rw[km,fV];omega);rw[show((s.take 52).drop 4).take 4=(s.drop 4).take 4 by rw[Xq,Oz];rfl,FI]at this;exact this
theorem WG(h:s.length=64):Rd.num ⟨(s.take 52).drop 8,false⟩ 1=(xW s,⟨(s.take 52).drop 9,false⟩):=by
 have:=Rd.jc ((s.take 52).drop 8) 1 oM oM (by rw[km,fV];omega);rw[show((s.take 52).drop 8).take 1=(s.drop 8).take 1 by rw[Xq,Oz];rfl,FI]at this;exact this
theorem Wu(h:s.length=64):Rd.num ⟨s.drop 52,false⟩ 4=(Ix s,⟨s.drop 56,false⟩):=by
 have:=Rd.jc (s.drop 52) 4 oM oM ab2;rw[FI]at this;exact this
theorem Wt(h:s.length=64):Rd.num ⟨s.drop 56,false⟩ 4=(jp s,⟨s.drop 60,false⟩):=by
 have:=Rd.jc (s.drop 56) 4 oM oM ab2;rw[FI]at this;exact this
theorem Xh(h:s.length=64):Rd.num ⟨s.drop 60,false⟩ 4=(kY s,⟨s.drop 64,false⟩):=by
 have:=Rd.jc (s.drop 60) 4 oM oM ab2;rw[FI]at this;exact this
theorem fK(h:Bytes s)(o:Nat):0<=yV s o/\yV s o<4294967296:=by
 unfold yV;have Z:=iS ((h.drop o).take 4);have G:((s.drop o).take 4).length<=4:=by rw[fV];omega
 have M:∀k,k<=4->(256:Int)^k<=4294967296:=dC
 have:=M _ G;omega
theorem Hw(h:Bytes s):0<=xW s/\xW s<256:=by
 unfold xW;have Z:=iS ((h.drop 8).take 1);have G:((s.drop 8).take 1).length<=1:=by rw[fV];omega
 have M:∀k,k<=1->(256:Int)^k<=256:=dC
 have:=M _ G;omega
theorem pT(h:jU s=true):cW s=⟨mj s,nk s,tf s,true⟩:=iP h
theorem mN(h:jU s=false):cW s=⟨0,0,[],false⟩:=iN (by rw[h];exact iu)
theorem eP{x:Int}(h:0<=x/\x<4294967296):IntKind.u32.wrap x=x:=by
 have:IntKind.u32.wrap x=x%4294967296:=rfl;omega
theorem ze(hT:kL I)(A:OA)(n c:Nat)(s:LI)(w:World)(B:Bytes s)(_hl:s.length<=100000)(h:St I w (ai .u8 (.slice A n c) s::L)):
 Calls prog 132 #[.slice A n c] w λu O=>∃X r,u= .returned (.tuple #[iW (cW s).q,iW (cW s).e,.slice X (cW s).b.length r,.bool (cW s).ok])/\St I O (ai .u8 (.slice X (cW s).b.length r) (cW s).b::ai .u8 (.slice A n c) s::L):=by
 obtain⟨hn,Z0,W0,D0⟩:=(h.get 0 rfl).sl;by_cases N0:n=64
 ·subst N0
  obtain⟨T,rfl,_⟩:=D0.2 oM;refine AS hn.symm B (λa=>pT (s:=s) a) (λa=>mN (s:=s) a) (show tf s=(s.drop 9).take (xW s).toNat from rfl) λb V M0 x J0=>?_;have i:=fK B 0;have H:=fK B 4;have r3:=Hw B;have G:=fK B 52;have N:=fK B 56;have t:=fK B 60;have i:0<=mj s/\mj s<4294967296:=i;have H:0<=nk s/\nk s<4294967296:=H;have G:0<=Ix s/\Ix s<4294967296:=G;have N:0<=jp s/\jp s<4294967296:=N;have t:0<=kY s/\kY s<4294967296:=t;have w1:=eP i;have w2:=eP H;have w4:=eP G;have w5:=eP N;have w6:=eP t;obtain⟨d,W⟩:∃d:Nat,xW s=(d:Int):=⟨(xW s).toNat,oM⟩;have w3:IntKind.i64.wrap (xW s)=(d:Int):=(IntWalk.i64_in _ oM).trans W;have X0:d<=255:=oM
  obtain⟨j,O0⟩:∃j,(mj s==0)=j:=⟨_,rfl⟩;obtain⟨J,P0⟩:∃J,(mj s !=jp s)=J:=⟨_,rfl⟩;obtain⟨Q,Q0⟩:∃Q,(nk s !=kY s)=Q:=⟨_,rfl⟩;obtain⟨F,B0⟩:∃F,decide ((d:Int)>43)=F:=⟨_,rfl⟩;have S0:decide ((43:Int)<(d:Int))=F:=B0;obtain⟨Y,R0⟩:∃Y,(Ix s !=rB (s.take 52))=Y:=⟨_,rfl⟩;have E0:=aa (show jU s= !(j||J||Q||F||Y)by
   unfold jU;rw[O0,P0,Q0,R0,W,B0,dZ b.out]
   rfl)
  have d0:((64:Int) !=64)=false:=Md rfl;have T0:(52:Int)<=(c:Int):=oM
  have U0:¬c=52:=oM
  have V0:52<=c:=oM
  have K0:=aa W;have h0:=h;clear h D0 B _hl i H r3 G N t W hn
  go_enter func132,ntmps132
  go_wp2_with fail
  refine an (I:=I) (L0:=L) [⟨none,none,λe=>ai .u8 (.slice (some T) 64 c) s⟩,⟨some 2,none,λe=>pu (e 2).n ⟨s.take 52,false⟩⟩,⟨some 5,none,λe=>pu (e 5).n ⟨s.drop 52,false⟩⟩] [[],[0],[0,1],[],[3],rG 5,rG 6,rG 7] (rG 8) rfl kR kR kR (by rfl) (λ_=>rfl) h0.fk ?_;refine nL ?_;refine mH (λe=> .slice (some T) 52 c) rfl (λe wx K h=>gS) ?_;simp only[aW];refine bp 133 (λe=> #[.slice (some T) 52 c]) (λe=> .pointer (some ⟨(e 2).n,0,none⟩)) rfl (λe wx K h=>by(
   have h:=h.fn;refine(ou (.slice (some T) 52 c) (s.take 52) _ (St.aav h)).mono ?_;rintro u wy⟨A0,rfl,Z⟩;exact⟨⟨none,A0,default⟩,rfl,Z.pk 3 [2,0]⟩)) ?_
  simp only[aW];refine nL ?_;refine mH (λe=> .slice (some (T.add 52)) 12 (c-52)) rfl (λe wx K h=>gS) ?_;simp only[aW];refine bp 133 (λe=> #[.slice (some (T.add 52)) 12 (c-52)]) (λe=> .pointer (some ⟨(e 5).n,0,none⟩)) rfl (λe wx K h=>by(
   have h:=h.fn;refine(ou (.slice (some (T.add 52)) 12 (c-52)) (s.drop 52) _ (St.Yn h)).mono ?_;rintro u wy⟨A0,rfl,Z⟩;exact⟨⟨none,A0,default⟩,rfl,Z.pk 4 [2,3,0]⟩)) ?_
  simp only[aW];refine xQ ?_;refine aA ?_;intro e w1 h;have h:=h.fn;obtain⟨C,C0⟩:∃C,(e 2).n=C:=⟨_,rfl⟩;obtain⟨l,H0⟩:∃l,(e 5).n=l:=⟨_,rfl⟩;rw[C0,H0]at h;have H1:=aa h;clear h h0
  go_wp2_with fail
  rw[C0];have S:=aa (show Rd.Ok ⟨s.take 52,false⟩from⟨V.take _,by show(s.take 52).length<=_;rw[fV];omega,λh=>by cases h⟩);have g:=aa (show Rd.Ok ⟨s.drop 52,false⟩from⟨V.drop _,by show(s.drop 52).length<=_;rw[km,b.out];omega,λh=>by cases h⟩);refine(bN C _ 4 _ S.hb S.hl S.hz (H1.fi 1)).mono ?_;rintro u v1⟨rfl,h⟩;have p:=aa (S.num 4);rw[We b.out]at h p⊢;have H2:=aa h;clear h H1
  go_wp2_with fail
  refine(bN C _ 4 _ p.hb p.hl p.hz H2).mono ?_;rintro u v2⟨rfl,h⟩;have D:=aa (p.num 4);rw[VI b.out]at h D⊢;have H3:=aa h;clear h H2
  go_wp2_with fail
  refine(bN C _ 1 _ D.hb D.hl D.hz H3).mono ?_;rintro u v3⟨rfl,h⟩;rw[WG b.out]at h⊢;have H4:=aa (h.fi 2);clear h H3
  go_wp2_with fail
  refine(bN l _ 4 _ g.hb g.hl g.hz H4).mono ?_;rintro u v4⟨rfl,h⟩;have E:=aa (g.num 4);rw[Wu b.out]at h E⊢;have H5:=aa h;clear h H4
  go_wp2_with fail
  refine(bN l _ 4 _ E.hb E.hl E.hz H5).mono ?_;rintro u v5⟨rfl,h⟩;have P:=aa (E.num 4);rw[Wt b.out]at h P⊢;have H6:=aa h;clear h H5
  go_wp2_with fail
  refine(bN l _ 4 _ P.hb P.hl P.hz H6).mono ?_;rintro u v6⟨rfl,h⟩;rw[Xh b.out]at h⊢;have z:=aa (h.pk 2 []);clear h H6 C0 H0;have U:=aa (OT hT (.slice (some T) 52 c) (s.take 52) _ (V.take _) ((z.get 0 rfl).cut oM) z);generalize mj s=q at*;generalize nk s=ep at*;generalize jp s=ag at*;generalize kY s=al at*;generalize Ix s=sa at*;generalize rB (s.take 52)=sm at*
  cases j
  case' true=>skip
  case' false=>cases J
  case' false.true=>skip
  case' false.false=>cases Q
  case' false.false.true=>skip
  case' false.false.false=>cases F
  case' false.false.false.true=>skip
  case' false.false.false.false=>cases Y
  case false.false.false.false.false=>
   have y:=aa (M0 E0);have Y0:d<=43:=by have:=of_decide_eq_false B0;omega
   have x1:IntKind.i64.wrap (9+(d:Int))=((9+d:Nat):Int):=(IntWalk.i64_in _ oM).trans oM;have x2:(9:Int)<=((9+d:Nat):Int):=oM
   have x3:((9+d:Nat):Int)<=(c:Int):=oM
   have x4:¬c=9:=oM
   go_wp2_with (go_at_call 174;refine U.mono ?_;rintro u v7⟨rfl,h⟩;have M:=aa h;clear h z U)
   have HC:=aa (show ay _ .u8 (.slice (some (T.add 9)) d (c-9)) ((s.drop 9).take d)from by
    have Z:=(M.get 0 rfl).drop (m:=9) oM (some (T.add 9)) (λ_=>rfl);exact Z.cut (m:=d) oM)
   refine(ef (some (T.add 9)) d (c-9) ((s.drop 9).take d) _ HC.sl.2.2.2 oM M).mono ?_;rintro u v8⟨v,rfl,h⟩;have G0:((s.drop 9).take d).length=d:=HC.sl.1.symm;obtain⟨X,r,rfl⟩:=h.slice;have F0:tf s=(s.drop 9).take d:=by rw[J0.out,K0.out,rE]
   have o:=aa (St.ints (k:= .u8) (xs:=(s.drop 9).take d) h);clear h M
   go_wp2_with fail
   ((try simp only[Exit.inBlock,Exit.then]);refine bodyPost_ret (qn rfl _ _ _) rfl ?_)
   exact⟨X,r,by rw[y.out];show _=Ending.returned (.tuple #[_,_,.slice X (tf s).length r,_]);rw[F0,G0];rfl,by rw[y.out];show St I _ (ai .u8 (.slice X (tf s).length r) (tf s)::_);rw[F0,G0];exact o.out⟩
  all_goals
   refine bq (x E0) (z.bH (R:=λw=>ay w .u8 sN []) (λO _=>ay.none_ O .u8)) λy o=>?_
   go_wp2_with (go_at_call 174;refine U.mono ?_;rintro u v7⟨rfl,h⟩;clear o;have o:=aa (h.bH (R:=λw=>ay w .u8 sN []) (λO _=>ay.none_ O .u8));clear h)
   ((try simp only[Exit.inBlock,Exit.then]);refine bodyPost_ret (qn rfl _ _ _) rfl ?_)
   exact⟨none,0,by rw[y.out];rfl,by rw[y.out];exact o.out⟩
 ·have d0:((n:Int) !=64)=true:=Oc oM
  have a:jU s=false:=by
   unfold jU;rw[decide_eq_false (by omega)]
   rfl
  refine bq (mN a) (h.bH (R:=λw=>ay w .u8 sN []) (λO _=>ay.none_ O .u8)) λx I0=>?_;clear h D0 a hn
  go_enter func132,ntmps132
  go_wp2_with fail
  ((try simp only[Exit.inBlock,Exit.then]);refine bodyPost_ret (qn rfl _ _ _) rfl ?_)
  exact⟨none,0,by rw[x.out];rfl,by rw[x.out];exact I0.out⟩
section
open Go.Shelf
attribute [local go_sem] Oper.semAt_some
structure VU where
 at_:Int
 q:Int
 b:LI
def cg(D:DS)(i:Int):PM:=cW (D.read i)
def xg(p:PM):Bool:=p.ok&&(p.e==0)
def eN(D:DS)(i:Int)(o:VU):VU:=if xg (cg D i)=true/\(cg D i).q>o.q then⟨i,(cg D i).q,(cg D i).b⟩else o
def dM(D:DS)(a:Int):Nat->VU
 |0=>⟨a+1,0,[]⟩
 |j+1=>eN D (a+j) (dM D a j)
def aJ(D:DS)(a:Int):VU:=dM D a 2
theorem DS.fZ(h:Bytes D.seen)(i:Int):Bytes (D.read i):=by
 unfold DS.read
 split
 ·exact Bytes.nil
 ·exact(h.drop _).take _
theorem DS.rO(D:DS)(i:Int):(D.read i).length<=64:=by
 unfold DS.read
 split
 ·exact abN
 ·unfold DS.at_
  exact ab5
theorem iT(h:Bytes s):0<=(cW s).q/\(cW s).q<4294967296/\0<=(cW s).e/\(cW s).e<4294967296/\(cW s).b.length<=43:=by
 unfold cW
 split
 ·rename_i a
  refine⟨(fK h 0).1,(fK h 0).2,(fK h 4).1,(fK h 4).2,?_⟩;show(tf s).length<=43;unfold tf;rw[fV];unfold jU at a;simp only[mf,Zn,XK,decide_eq_false_iff_not]at a;omega
 ·refine⟨dC,dC,dC,dC,by simp⟩
theorem mM(h:Bytes s):Bytes (cW s).b:=by
 unfold cW
 split
 ·exact(h.drop _).take _
 ·exact Bytes.nil
theorem iR{D:DS}(h:Bytes D.seen)(a:Int):∀j,0<=(dM D a j).q/\(dM D a j).q<4294967296/\(dM D a j).b.length<=43/\Bytes (dM D a j).b
 |0=>⟨cO 0,by show(0:Int)<4294967296;decide,by simp[dM],Bytes.nil⟩
 |j+1=>by
  unfold dM eN
  split
  ·have:=iT (DS.fZ h (a+j))
   exact⟨this.1,this.2.1,this.2.2.2.2,mM (DS.fZ h (a+j))⟩
  ·exact iR h a j
theorem mR(D:DS)(a:Int):∀j,j<=2->(dM D a j).at_=a\/(dM D a j).at_=a+1
 |0,_=> .inr rfl
 |1,_=>by
  unfold dM eN
  split
  ·left
   show a+((0:Nat):Int)=a;omega
  ·exact mR D a 0 oM
 |2,_=>by
  unfold dM eN
  split
  ·exact .inr rfl
  ·exact mR D a 1 oM
 |j+3,h=>oM
def Fw(g:Nat)(o:VU):az:=Bc λv=>aX (ab g 258 #[iI o.at_,iW o.q,v]) (ai .u8 v o.b)
theorem St.Yq{g:Nat}{o:VU}(h:St I w (Fw g o::L)):∃A c,St I w (ab g 258 #[iI o.at_,iW o.q,.slice A o.b.length c]::ai .u8 (.slice A o.b.length c) o.b::L):=by
 obtain⟨v,h⟩:=h.ex;have Z:=h.star;obtain⟨A,c,rfl,_⟩:=Z.get 1 rfl;exact⟨A,c,Z⟩
theorem St.Wb{g:Nat}{v:Value}{o:VU}(h:St I w (ab g 258 #[iI o.at_,iW o.q,v]::ai .u8 v o.b::L)):St I w (Fw g o::L):=St.eu v h.aM
theorem TK(hT:kL I)(g:Nat)(D:DS)(a:Int)(t x z m:Nat)(T:Nat->List az)(w:World)(q:D.ok)(R:Bytes D.seen)(ha:0<=a/\a<=100000)
 (c:∀j,j<2->xg (cg D (a+(j:Nat)))=false->T (j+1)=T j)
 (G:∀(j:Nat) (W:World) (X:OA) (r:Nat),j<2->xg (cg D (a+(j:Nat)))=true->St I W (ai .u8 (.slice X (cg D (a+(j:Nat))).b.length r) (cg D (a+(j:Nat))).b::ab t 3 #[iI a]::ab x 49 #[pO g]::di g D::T j)->
  YieldAt Fence.wide (m-1) prog z #[.agg #[iI (a+(j:Nat)),iW (cg D (a+(j:Nat))).q,.slice X (cg D (a+(j:Nat))).b.length r]] W λe W'=>e= .returned (.bool true)/\St I W' (ab t 3 #[iI a]::ab x 49 #[pO g]::di g D::T (j+1)))
 (h:St I w (ab t 3 #[iI a]::ab x 49 #[pO g]::di g D::T 0)):
 CallsIn Fence.wide m prog 204 #[.func (.yield z) #[] #[],pO t,pO x] w λe A0=>(∃v,e= .returned v)/\St I A0 (ab t 3 #[iI a]::ab x 49 #[pO g]::di g D::T 2):=by
 refine AS G c q R h λA l o V H=>?_;have U:=(h.ah 0 rfl).cell 0;clear h G c q R;refine callsIn_of_wp func204 rfl trivial ?_ rfl;simp only[ntmps204,RT,qR,MJ,Nat.reduceAdd,Nat.reduceSub,Xv,XD,Xu,Xx,zm,Oe]
 gi_wp2_with fail
 clear U
 gi_loopw [4] (λi wr=>∃(j:Nat) (k:Int),k=a+(j:Nat)/\j<=2/\i= iI k/\St I wr (ab t 3 #[iI a]::ab x 49 #[pO g]::di g D::T j)) (λi _=>(a+2-intOf i).toNat)
 case atStart=>exact⟨0,a,oM,oM,rfl,H⟩
 case round=>
  clear H;obtain⟨j,k,Q,hj,rfl,h⟩:=hrel;have U:=(h.ah 0 rfl).cell 0;have y1:=(h.ah 1 rfl).cell 0;refine bq (λW X r=>A j W X r) (l j) λL n=>?_;rw[<-Q]at L n;refine bq Q h λd H=>?_;have H0:0<=k:=oM
  have I0:k<=200000:=oM
  have wa:IntKind.i64.wrap (a+1)=a+1:=IntWalk.i64_in _ oM;by_cases S:j<2
  ·have d1:decide (k<=a+1)=true:=decide_eq_true (by omega)
   clear h Q
   gi_wp2_with fail
   refine⟨trivial,λy=>by simp[Fence.wide]at y,(callsIn_wide.2 (vJ k o (H.fi 2))).mono ?_⟩;rintro e w1⟨p,c1,rfl,h⟩;have P:=aa h;clear h H U y1
   gi_wp2_with fail
   refine⟨trivial,λy=>by simp[Fence.wide]at y,(callsIn_wide.2 (ze hT p _ c1 _ _ (DS.fZ V k) (by have:=DS.rO D k;omega) P)).mono ?_⟩;rintro e Y⟨C,c2,rfl,h⟩;have O:cg D k=cW (D.read k):=rfl;rw[<-O]at h⊢;have N:=aa (h.pk 5 [0,3,4,2]);clear h P O;have b:xg (cg D k)=((cg D k).ok&&((cg D k).e==0)):=rfl;refine bq (λB0=>L Y C c2 S B0 N) (n S) λL n=>?_;have U:=(N.ah 1 rfl).cell 0;obtain⟨u,E⟩:∃u,(cg D k).ok=u:=⟨_,rfl⟩;obtain⟨J,D0⟩:∃J,((cg D k).e==0)=J:=⟨_,rfl⟩;rw[E,D0]at b;rw[E];by_cases F:(u&&J)=true
   ·obtain⟨fn,tm,F0,G0,hy,B⟩:=L.out (b.trans F)
    have C0:u=true/\J=true:=by simpa using F
    obtain⟨rfl,rfl⟩:=C0;generalize(cg D k).q=pq at*;generalize(cg D k).e=pe at*;generalize(cg D k).b=pb at*;clear F b L n E
    gi_wp2_with fail
    refine⟨λy=>by simp[Fence.wide]at y,B.mono ?_⟩;rintro e W3⟨rfl,M⟩;have K:=aa M;clear M B hy N U
    exact adP
   ·have Z:=aa (n (by rw[b];simpa using F))
    have K:=aa (show St I Y (ab t 3 #[iI a]::ab x 49 #[pO g]::di g D::T (j+1))by rw[Z.out];exact N.tail);generalize(cg D k).q=pq at*;generalize(cg D k).e=pe at*;generalize(cg D k).b=pb at*;clear b L n E N
    cases u
    case' true=>cases J
    case' true.true=>exact absurd rfl F
    all_goals
     clear F
     gi_wp2_with fail
     refine⟨λf hf=>(by cases hf),?_⟩
     exact adP
  ·have E0:j=2:=oM
   subst E0;have d1:decide (k<=a+1)=false:=decide_eq_false (by omega);have K:=aa h;clear h Q L n H
   gi_wp2_with fail
   go_end0
   exact⟨⟨_,rfl⟩,K⟩
theorem Ji(g:Nat)(a:Int)(w:World)(h:St I w L):
 Calls prog 176 #[pO g,iI a] w λe O=>∃t x,e= .returned (.func (.func 204) #[] #[pO t,pO x])/\St I O (ab t 3 #[iI a]::ab x 49 #[pO g]::L):=by
 have H:=aa ((h.alloc 49 #[pO g]).alloc 3 #[iI a]);clear h
 go_enter func176,ntmps176
 go_wp2_with fail
 go_ret
 exact⟨_,_,rfl,by have h:=H.out;rwa[World.size_alloc]at h⟩
end
section
open Go.Shelf
attribute [local go_sem] Oper.semAt_some
theorem MG{z D:Nat}{fn:FuncId}{tmps args:Vq}{T:Array Tmp}{assign b:Code}{W:World}{n:Nat}(L':List az)(j:Act->List az->Prop)
 (h:St I W (fb z (.loop (tJ fn tmps T assign b D .ready))::L)) (V:args.size=T.size)
 (c:∀(K:Act->World->Prop),(∀(i:Act) (u:World) (C:List az),j i C->St I u (fb z (.loop (tJ fn tmps T assign b D .ready))::C)->K i u)->assign.wpIn (Fence.wide.inRound z) n P (Exit.then K (λ_ _ _=>False)) {tmps:=(T.zip args).foldl (λt (p,v)=>t.setIfInBounds p v) tmps,defers:=[]} W)
 (g:∀(i:Act) (u:World) (C:List az),j i C->St I u (fb z (.loop (tJ fn tmps T assign b D .busy))::C)->b.wpIn (Fence.wide.inRound z) n P (λe _ k=>e= .normal/\St I k (fb z (.loop (tJ fn tmps T assign b D .busy))::L')) i u):
 YieldAt Fence.wide n P z args W λe k=>e= .returned (.bool true)/\St I k (fb z (.loop (tJ fn tmps T assign b D .ready))::L'):=by
 have F:=h.obj 0 rfl;refine⟨fn,_,assign,b,run_yield F V,roundIn_of_wpIn trivial (c _ (λi u C R Z=>⟨_,run_beginRound (Z.obj 0 rfl) rfl,?_⟩))⟩;refine wpIn_mono (g i _ C R (Z.uo _)) ?_;exact aeq
theorem th{t:Nat}{l:TypeId}{v:Value}{a:Addr}(h:fn.results= #[.cell t l])(b:Vq)(T:b.getD t undef= .pointer (some a))(F:(loadVar l a).run P w= .ok v w):
 (results fn b).run P w= .ok v w:=by
 exact adm
theorem St.Sw{L R:List az}{b:Nat}{o:Obj}(h:St I w L)(z:At (fb b o) L R:=by exact aU):w.heap[b]? =some o:=by
 obtain⟨m,p⟩:=z.idx;exact h.obj m p
theorem KF(hT:kL I)(g:Nat)(D:DS)(a:Int)(w:World)(ho:D.ok)(hb:Bytes D.seen)(ha:0<=a/\a<=100000)(h:St I w (di g D::L)):
 Calls prog 139 #[pO g,iI a] w λe O=>∃A c,e= .returned (.agg #[iI (aJ D a).at_,iW (aJ D a).q,.slice A (aJ D a).b.length c])/\St I O (ai .u8 (.slice A (aJ D a).b.length c) (aJ D a).b::di g D::L):=by
 have wa:IntKind.i64.wrap (a+1)=a+1:=IntWalk.i64_in _ oM;have V:=h.alloc 258 #[iI 0,iW 0,sN];have G:=(V.bH (R:=λw=>ay w .u8 sN []) (λO _=>ay.none_ O .u8)).alloc 258 #[iI (a+1),iW 0,sN];rw[World.size_alloc]at G;refine iG (show St I _ (Fw (w.heap.size+1) (dM D a 0)::ab w.heap.size 258 #[iI 0,iW 0,sN]::di g D::L)from St.Wb (o:=dM D a 0) (G.pk 0 [])) ho hb λH HO HB=>?_;clear h ho hb V G;refine(callsIn_wide (n:=12)).1 ?_;refine callsIn_of_wp_marks func139 rfl trivial ?_ rfl;simp only[ntmps139,RT,qR,MJ,Nat.reduceAdd,Nat.reduceSub,Xv,XD,Xu,Xx,zm,Oe]
 gi_wp2_with fail
 refine⟨trivial,(callsIn_wide.2 (Ji g a _ H)).mono ?_⟩;rintro e w1⟨t,x,rfl,h⟩;obtain⟨k,F⟩:=nM (w.heap.size);obtain⟨d,Z⟩:=nM (w.heap.size+1);rw[<-Z,<-F]at h;rw[<-Z,<-F];have H1:=aa h;clear h H F Z
 gi_wp2_with fail
 refine uK (n:=12) (gf:=204) (lb:= #[pO t,pO x]) rfl (enters_of func204 kR rfl) H1 ?_;intro fn z y W1 G0;refine(TK hT g D a t x z 11 (λj=>fb z (.loop _)::fb y (.deferred (some []))::Fw d (dM D a j)::ab k 258 #[iI 0,iW 0,sN]::L) W1 HO HB ha ?_ ?_ (G0.sub)).mono ?_
 ·intro j hj U
  show fb z _::fb y _::Fw d (dM D a (j+1))::_=fb z _::fb y _::Fw d (dM D a j)::_;rw[show dM D a (j+1)=dM D a j from iN (by rw[U];simp)]
 ·intro j A0 X r hj U B
  have key:=MG (P:=prog) (n:=10) (L':=fb y (.deferred (some []))::ab t 3 #[iI a]::ab x 49 #[pO g]::di g D::Fw d (dM D a (j+1))::ab k 258 #[iI 0,iW 0,sN]::L) (λN i=>∃C:Nat,N={tmps:= #[pO g,iI a,undef,undef,pO k,pO d,pO C,iI a,iI (a+1),.agg #[iI (a+1),iW 0,sN],pO g,iI a,.func (.func 204) #[] #[pO t,pO x],.agg #[iI (a+(j:Nat)),iW (cg D (a+(j:Nat))).q,.slice X (cg D (a+(j:Nat))).b.length r],undef,undef,undef,undef,undef,undef,undef],defers:=[]}/\i=ab C 258 #[iI (a+(j:Nat)),iW (cg D (a+(j:Nat))).q,.slice X (cg D (a+(j:Nat))).b.length r]::ai .u8 (.slice X (cg D (a+(j:Nat))).b.length r) (cg D (a+(j:Nat))).b::fb y (.deferred (some []))::ab t 3 #[iI a]::ab x 49 #[pO g]::di g D::Fw d (dM D a j)::ab k 258 #[iI 0,iW 0,sN]::L) (args:= #[.agg #[iI (a+(j:Nat)),iW (cg D (a+(j:Nat))).q,.slice X (cg D (a+(j:Nat))).b.length r]]) (B.front) rfl ?_ ?_
  ·obtain⟨E0,H0,B0,C0,hy,hR⟩:=key
   refine⟨E0,H0,B0,C0,hy,hR.mono ?_⟩;rintro e W'⟨Y,S⟩;exact⟨Y,S.sub⟩
  ·intro I0 hK
   gi_wp2
   exact hK _ _ _ ⟨A0.heap.size,rfl,rfl⟩ ((B.alloc 258 #[iI (a+(j:Nat)),iW (cg D (a+(j:Nat))).q,.slice X (cg D (a+(j:Nat))).b.length r]).sub)
  ·rintro N W2 i⟨C,rfl,rfl⟩ G
   refine bq (show dM D a (j+1)=if xg (cg D (a+(j:Nat)))=true/\(cg D (a+(j:Nat))).q>(dM D a j).q then⟨a+(j:Nat),(cg D (a+(j:Nat))).q,(cg D (a+(j:Nat))).b⟩else dM D a j from rfl) U λE HR=>?_;clear U B;generalize cg D (a+(j:Nat))=p at*;generalize dM D a (j+1)=o2 at*;generalize dM D a j=o at*;have M:=G.fi 7;obtain⟨K,l,S⟩:=M.Yq;have y1:=(S.ah 0 rfl).cell 1;have x1:=(S.ah 3 rfl).cell 1;by_cases u:p.q>o.q
   ·have d1:decide (p.q>o.q)=true:=dZ u
    have D0:decide (o.q<p.q)=true:=d1;have x0:=(S.ah 3 rfl).cell 0;have x2:=(S.ah 3 rfl).cell 2;have y0:=(S.ah 0 rfl).cell 0;have y2:=(S.ah 0 rfl).cell 2;have f:=(S.ah 0 rfl).frozen;refine bq S (E.trans (iP ⟨HR,u⟩)) λq J=>?_;clear G M S u E
    gi_wp2_with fail
    rw[J.out];have h5:=((q.bx 0 (iI (a+(j:Nat))) #[iI (a+(j:Nat)),iW o.q,.slice K o.b.length l]).bx 1 (iW p.q) #[iI (a+(j:Nat)),iW p.q,.slice K o.b.length l]).bx 2 (.slice X p.b.length r) #[iI (a+(j:Nat)),iW p.q,.slice X p.b.length r];exact(St.Wb (v:= .slice X p.b.length r) (o:=⟨a+(j:Nat),p.q,p.b⟩) (h5.pk 5 [0,4,2])).sub
   ·have d1:decide (p.q>o.q)=false:=dQ u
    have D0:decide (o.q<p.q)=false:=d1;refine bq (E.trans (iN (λh=>u h.2))) S λJ q=>?_;clear G M S u E
    gi_wp2_with fail
    rw[J.out];exact(St.Wb (o:=o) (q.pk 5 [0,1,2])).sub
 ·rintro e W2⟨Y,G⟩
  refine⟨Y,_,G.pk 7 [3,4,5,6,2],?_⟩;intro W3 M;obtain⟨T,Q,S⟩:=(M.fi 1).Yq;have y0:=(S.ah 0 rfl).cell 0;have y1:=(S.ah 0 rfl).cell 1;have y2:=(S.ah 0 rfl).cell 2;have z0:=(S.ah 3 rfl).cell 0;have z1:=(S.ah 3 rfl).cell 1;have z2:=(S.ah 3 rfl).cell 2;have f:=(S.ah 3 rfl).frozen;have hD:=S.Sw (o:= .deferred (some [])) (b:=y);have E:=aa (show aJ D a=dM D a 2 from rfl);generalize dM D a 2=o at*;have H6:=aa S;clear M S G
  gi_wp2_with fail
  have h7:=(((H6.fi 3).bx 0 (iI o.at_) #[iI o.at_,iW 0,sN]).bx 1 (iW o.q) #[iI o.at_,iW o.q,sN]).bx 2 (.slice T o.b.length Q) #[iI o.at_,iW o.q,.slice T o.b.length Q];have F0:=h7.Sw (o:= .deferred (some [])) (b:=y);refine⟨by simp,.inl ⟨_,_,rfl,run_takeDeferred F0,?_⟩⟩;have W:=(h7.fi 3).uo (.deferred none);have c0:=(W.ah 1 rfl).cell 0;have c1:=(W.ah 1 rfl).cell 1;have c2:=(W.ah 1 rfl).cell 2;refine⟨.agg #[iI o.at_,iW o.q,.slice T o.b.length Q],th rfl _ rfl gS,T,Q,by rw[E.out],?_⟩;rw[E.out];exact W.sub
end
def Gm(w:World)(K:LV)(b:LI):Prop:=∃v,K=[v]/\ay w .u8 v b
theorem St.Vx{e:TypeId}{size:Nat}{A:OA}{n c:Nat}{N:LV}(h:St I w (ct e size (.slice A n c) n N::L))(k:Nat)(Q:k<=n):St I w (ct e size (.slice A k c) k (N.take (k*size))::L):=by
 have r:=h.row 0 rfl;obtain⟨M,F,_,_,J,_,q⟩:=h.head;refine q w _ F (Fr.refl _ _) (λ_=>⟨λb=>(J.1 b).trans ?_,?_⟩) (λb B=> .inl B)
 ·cases A<;>exact Ve
 ·have S:k*size<=n*size:=vz _ Q
  refine⟨by rw[fV,r.1];omega,?_⟩;rcases r.2 with⟨u,Y⟩|⟨g,cap,E,u,d,C,D,p,V,R⟩
  ·injection u with u _ P
   subst u;subst P;exact .inl ⟨by rw[show k=0 by omega],oM⟩
  ·injection u with u _ P
   subst u;subst P;refine .inr ⟨g,c,E,rfl,d,C,oM,p,V,?_⟩;rw[<-R,Oz]
   exact adS
theorem Te(k:Nat)(w:World)(Q:k<=1000000)(h:St I w L):
 Calls prog 230 #[sN,iI k] w λe O=>∃A c,e= .returned (.slice A 0 c)/\St I O (ct 5 1 (.slice A 0 c) 0 []::L):=by
 have H:=aa (h.mq 5 1);clear h;by_cases K:0<k
 ·have d0:decide ((k:Int)<0)=false:=decide_eq_false (by omega)
  have d1:decide ((k:Int)>0)=true:=decide_eq_true (by omega);have i:decide ((0:Int)<(k:Int))=true:=d1;have d2:IntKind.i64.wrap ((k:Int)-IntKind.i64.wrap (0-0))=(k:Int):=by rw[IntKind.wrap_i64,IntKind.wrap_i64];omega
  have d3:IntKind.i64.wrap ((k:Int)-0)=(k:Int):=by rw[IntKind.wrap_i64];omega
  go_enter func230,ntmps230
  go_wp2_with (at_builtin;obtain⟨n,z,d,U⟩:=St.Oa qt rfl rfl underlying3 H 27 .i64 k oM oM oM;refine Lib.wpList_append_run _ rfl _ _ _ _ rfl _ _ rfl rfl _ _ d ?_;obtain⟨T,E,rfl⟩:=U.slice;rw[xS]at U⊢;have B:=(U.row 0 rfl).2;have u:=U.Vx 0 (iD _);have j:=aa u;clear U d u)
  go_ret
  exact⟨_,_,rfl,by simpa using j.out⟩
 ·obtain rfl:k=0:=oM
  go_enter func230,ntmps230
  go_wp2_with fail
  go_ret
  exact⟨_,_,rfl,H⟩
def lens(l:List (LI)):Nat:=(l.map List.length).sum
theorem sA(l:List (LI)){x:LI}(J:l[k]? =some x):lens (l.take (k+1))=lens (l.take k)+x.length:=by
 rw[JU,J];unfold lens;rw[yu,List.sum_append];exact abN
theorem yx(l:List (LI))(k:Nat):lens (l.take k)<=lens l:=by
 have:lens l=lens (l.take k)+lens (l.drop k):=by
  conv=>lhs;rw[<-Le k l]
  unfold lens;rw[yu,List.sum_append]
 omega
theorem CH(l:List (LI)){x:LI}(J:l[k]? =some x):(l.take (k+1)).flatten=(l.take k).flatten++x:=by
 rw[JU,J,List.flatten_append];exact abN
theorem Ce(v:Value)(l:List (LI))(w:World)(Q:lens l<=100000)(h:St I w (aG 1 Gm v l::L)):
 Calls prog 223 #[v] w λe O=>∃A c,e= .returned (.slice A (lens l) c)/\St I O (ai .u8 (.slice A (lens l) c) l.flatten::L):=by
 obtain⟨A,c,rfl,hc,hm⟩:=(h.eM 0 rfl).slice;obtain⟨n,W⟩:=nM (l.length);rw[<-W]at hc h⊢;refine iG W h Q λb H p=>?_;clear h W Q
 go_enter func223,ntmps223
 go_wp2_with fail
 go_loopg [3,11] n (λU sv R wr=>∃(k s:Nat),U=n-k/\k<=n/\R= iI (k:Nat)/\sv= iI (s:Nat)/\s=lens (l.take k)/\St I wr (aG 1 Gm (.slice A n c) l::L))
 case atStart=>exact⟨0,0,rfl,iD _,rfl,rfl,rfl,H⟩
 case round=>
  clear H;obtain⟨k,s,C,hk,rfl,rfl,V,h⟩:=hrel;have M:=aa C;have C0:s<=100000:=by rw[V];exact qJ (yx l k) p
  have G:=aa V;clear C V;by_cases t:k<n
  ·have J:=g7 (l:=l) (i:=k) abO
   generalize l[k]' abO=x at J;obtain⟨T,cs,rfl,_,B,⟨P,rfl,o⟩,_⟩:=h.elem 0 rfl J;have x3:wr.cell? (T.add k)=some P:=by simpa[Addr.add]using B 0 _ rfl
   obtain⟨S,d,rfl,_,_,_⟩:=id o;have g:=aa J;have Z:s+x.length<=100000:=by
    have:=sA l J;rw[G.out,<-this];exact qJ (yx l _) p
   have F:=aa h;have k0:(0:Int)<=(k:Int):=oM
   have k1:(k:Int)<(n:Int):=oM
   have w1:IntKind.i64.wrap ((s:Int)+(x.length:Int))=((s+x.length:Nat):Int):=by rw[IntKind.wrap_i64];omega
   have d0:decide (((s+x.length:Nat):Int)<0)=false:=decide_eq_false (by omega);clear J h B o
   go_wp2_with fail
   go_roundg (n-(k+1))
   case measure=>have:=M.out;omega
   case rel=>exact⟨k+1,s+x.length,rfl,oM,by go_num,rfl,by rw[sA l g.out,G.out],F⟩
  ·obtain rfl:k=n:=oM
   have X:l.take k=l:=oJ ab9;have G:Hid (s=lens l):=by have:=G.out;rw[X]at this;exact this
   have F:=aa h;clear h X
   go_wp2_with fail
   refine(Te s _ oM F).mono ?_;rintro e w2⟨r,c2,rfl,Y⟩;have N:=aa Y;clear Y F
   go_wp2_with fail
   go_loopg [6,27] k (λU ov R wr=>∃(j q:Nat) (a:OA) (y:Nat),U=k-j/\j<=k/\R= iI (j:Nat)/\ov= .slice a q y/\q=lens (l.take j)/\St I wr (ct 5 1 (.slice a q y) q (bv (l.take j).flatten)::aG 1 Gm (.slice A k c) l::L))
   case atStart=>exact⟨0,0,r,c2,rfl,iD _,rfl,rfl,rfl,N⟩
   case round=>
    clear N;obtain⟨j,q,a,y,C,hj,rfl,rfl,u,h⟩:=hrel;have M:=aa C;have A0:q<=100000:=by rw[u];exact qJ (yx l j) p
    have E:=aa u;clear C u;by_cases t:j<k
    ·have J:=g7 (l:=l) (i:=j) abO
     generalize l[j]' abO=x at J;obtain⟨T,cs,rfl,_,B,⟨P,rfl,o⟩,_⟩:=h.elem 1 rfl J;have x3:wr.cell? (T.add j)=some P:=by simpa[Addr.add]using B 0 _ rfl
     obtain⟨S,d,rfl,_,_,Z⟩:=o;refine bq Z J λz g=>?_;have B0:q+x.length<=100000:=by
      have:=sA l J;rw[E.out,<-this];exact qJ (yx l _) p
     have N:=aa h;have k0:(0:Int)<=(j:Int):=oM
     have k1:(j:Int)<(k:Int):=oM
     clear J h B Z
     go_wp2_with (at_builtin;refine St.fj qt N rfl _ _ rfl rfl S x.length d rfl (bv x) z (jJ _) oM oM ?_;intro A' c' w1 K;have D:=aa K;clear K N)
     go_roundg (k-(j+1))
     case measure=>have:=M.out;omega
     case rel=>exact⟨j+1,q+x.length,_,_,rfl,oM,by go_num,rfl,by rw[sA l g.out,E.out],by rw[CH l g.out,wV];exact D.out⟩
    ·obtain rfl:j=k:=oM
     have X:l.take j=l:=oJ ab9;rw[X]at h;obtain rfl:q=lens l:=by have:=E.out;rw[X]at this;exact this
     have N:=aa (h.ints.tO);clear h X
     go_wp2_with fail
     go_ret
     exact⟨_,_,rfl,N⟩
theorem wA{a:Act}{o:Oper}{w O:World}{v J x b:Value}{t:TypeId}{len M G j:Nat}{C D r:Operand}(X:o.op= .buildSlice t len #[(M,C),(G,D),(j,r)])(K:a.eval C=J)(Z:a.eval D=x)(Y:a.eval r=b)(h:(Instr.buildSlice t len #[(M,J),(G,x),(j,b)]).run P w= .ok v O):(execOp a.eval o).run P w= .ok (.value v) O:=by
 unfold execOp;simp only[X,K,Z,Y,CB,nG,zF,Sem.run_bind,Sem.run_pure,Result.andThen_ok,h]
theorem OO(w:World)(A q C:OA)(n m k c d e:Nat):(Instr.buildSlice 85 3 #[(0,.slice A n c),(1,.slice q m d),(2,.slice C k e)]).run prog w= .ok (.slice (aO w.heap.size) 3 3) (w.alloc (.cells #[.slice A n c,.slice q m d,.slice C k e] 27)):=kR
theorem St.aar{q u y:Value}{C D r:LI}(e:TypeId)(h:St I w (ai .u8 q C::ai .u8 u D::ai .u8 y r::L)):St I (w.alloc (.cells #[q,u,y] e)) (aG 1 Gm (.slice (aO w.heap.size) 3 3) [C,D,r]::L):=by
 have Z:=h.oY (Q:=λO=>ay O .u8 q C/\ay O .u8 u D) (λO a b=>⟨a,b⟩);have G:=Z.oY (Q:=λO=>∀p∈([([q],C),([u],D),([y],r)]:List (LV×LI)),Gm O p.1 p.2) (λO a b=>by
  intro p P;simp only[qQ,qo,or_false]at P;rcases P with rfl|rfl|rfl
  ·exact⟨q,rfl,a.1⟩
  ·exact⟨u,rfl,a.2⟩
  ·exact⟨y,rfl,b⟩)
 exact St.uV [([q],C),([u],D),([y],r)] e (by intro p P;simp only[qQ,qo,or_false]at P;rcases P with rfl|rfl|rfl<;>rfl) G abN w.heap.size rfl
theorem St.aaL{q u:Value}{C D:LI}(e:TypeId)(h:St I w (ai .u8 q C::ai .u8 u D::L)):St I (w.alloc (.cells #[q,u] e)) (aG 1 Gm (.slice (aO w.heap.size) 2 2) [C,D]::L):=by
 have G:=h.oY (Q:=λO=>∀p∈([([q],C),([u],D)]:List (LV×LI)),Gm O p.1 p.2) (λO a b=>by
  intro p P;simp only[qQ,qo,or_false]at P;rcases P with rfl|rfl
  ·exact⟨q,rfl,a⟩
  ·exact⟨u,rfl,b⟩)
 exact St.uV [([q],C),([u],D)] e (by intro p P;simp only[qQ,qo,or_false]at P;rcases P with rfl|rfl<;>rfl) G abN w.heap.size rfl
theorem St.KZ(h:St I w L):St I (w.alloc (.cells #[sN] 83)) (AQ w.heap.size []::L):=St.uv (xs:=[]) ((h.mq 5 1).alloc 83 #[sN]) rfl
theorem uQ(x:Int):bM x 4=aV x 4:=rfl
theorem LA(x:Int):bM x 1=aV x 1:=rfl
theorem nZ{x:Int}(h:0<=x/\x<4294967296):IntKind.u64.wrap x=x:=IntWalk.u64_in _ oM
theorem LF(g:Nat)(q e:Int)(N:LI)(w:World)(d:0<=q/\q<4294967296)(Y:0<=e/\e<4294967296)(Q:N.length<=1000)(h:St I w (AQ g N::L)):
 Calls prog 222 #[pO g,iW q,iW e] w λu O=>u= .returned (.tuple #[])/\St I O (AQ g (N++aV q 4++aV e 4)::L):=by
 have H:=aa h;have b:=nZ d;have a:=nZ Y;have p:=aa Q;clear h d Y
 go_enter func222,ntmps222
 go_wp2_with fail
 refine(dk g q 4 N _ oM H).mono ?_;rintro u z⟨rfl,h⟩;rw[uQ]at h;have F:=aa h;clear h H
 go_wp2_with fail
 refine(dk g e 4 _ _ (by rw[dB,au];have:=p.out;omega) F).mono ?_;rintro u R⟨rfl,h⟩;rw[uQ]at h;have C:=aa h;clear h F
 go_wp2_with fail
 go_end0
 exact⟨rfl,C⟩
theorem pJ(q e:Int)(h:b.length<=43):(lL q e b).length=52:=by
 unfold lL;simp only[dB,au,bW,WQ];omega
theorem xO(q e:Int)(h:Bytes b):Bytes (lL q e b):=by
 unfold lL;refine((((cd _ _).append (cd _ _)).append (cd _ _)).append h).append ?_;intro x J;rw[ZK J];unfold isByte;omega
theorem dI(q e:Int)(h:b.length<=43):(aR q e b).length=64:=by
 unfold aR;rw[dB,pJ q e h];simp only[dB,au]
theorem eA(q e:Int)(h:Bytes b):Bytes (aR q e b):=
 (xO q e h).append (((cd _ _).append (cd _ _)).append (cd _ _))
theorem zC(hT:kL I)(q S:Int)(A:OA)(n c:Nat)(b:LI)(w:World)(hq:0<=q/\q<4294967296)(he:0<=S/\S<4294967296)(hn:n<=43)(hb:Bytes b)(h:St I w (ai .u8 (.slice A n c) b::L)):
 Calls prog 205 #[iW q,iW S,.slice A n c] w λu J0=>∃X r,u= .returned (.tuple #[.slice X 64 r,iI 0])/\St I J0 (ai .u8 (.slice X 64 r) (aR q S b)::ai .u8 (.slice A n c) b::L):=by
 have B0:n=b.length:=(h.get 0 rfl).sl.1;have A0:b.length<=43:=oM
 refine iG hq he (xO q S hb) λE D B=>?_;have d1:decide ((n:Int)>43)=false:=decide_eq_false (by omega);have M0:decide ((43:Int)<(n:Int))=false:=d1;have wn:IntKind.u64.wrap (n:Int)=(n:Int):=IntWalk.u64_in _ oM;obtain⟨k,hk⟩:=nM (43-n);have N0:k<=43:=oM
 have wk:IntKind.i64.wrap (43-(n:Int))=((k:Nat):Int):=(IntWalk.i64_in _ oM).trans oM;obtain⟨xs,M⟩:=nM (aV q 4++aV S 4++aV (n:Nat) 1);have H0:=aa M;have I0:=aa (show xs.length<=1000000000 by rw[M];simp only[dB,au];omega);have C:=aa (show lens [xs,b,bW k]=52 by
  unfold lens;simp only[nG,zF,List.sum_cons,List.sum_nil,bW,WQ];rw[M];simp only[dB,au];omega)
 obtain⟨y,i⟩:=nM (lL q S b);have D0:=aa (show [xs,b,bW k].flatten=y by
  rw[i];unfold lL;rw[M,hk,B0];simp)
 have F0:=aa (show aR q S b=y++(aV (rB y) 4++aV q 4++aV S 4)by rw[i];rfl);rw[<-i]at B;have E0:=aa (show y.length=52 by rw[i];exact pJ q S A0);have H:=aa h;clear h hq he hk M i B0 hb A0
 go_enter func205,ntmps205
 go_wp2_with fail
 have Z:=H.KZ;generalize hg:w.heap.size=g at Z⊢;have F:=aa Z;clear Z H hg;refine(LF g q S [] _ E D abN F).mono ?_;rintro u w1⟨rfl,h⟩;have N:=aa h;clear h F
 go_wp2_with fail
 refine(dk g (n:Nat) 1 _ _ (by simp only[zm,dB,au];omega) N).mono ?_;rintro u w2⟨rfl,h⟩;rw[LA,zm,<-H0.out]at h;have W:=h;clear h N
 go_wp2_with fail
 refine an (I:=I) (L0:=L) [⟨none,none,λe=>AQ g xs⟩,⟨none,none,λe=>ai .u8 (.slice A n c) b⟩,⟨some 0,none,λe=>ai .u8 (.slice (e 0).A xs.length (e 0).n) xs⟩,⟨some 5,none,λe=>ai .u8 (.slice (some ⟨(e 5).n,0,none⟩) k k) (bW k)⟩,⟨some 6,some 7,λe=>aG 1 Gm (.slice (some ⟨(e 6).n,0,none⟩) 3 3) [xs,b,bW k]⟩,⟨some 7,none,λe=>ai .u8 (.slice (e 7).A 52 (e 7).n) y⟩] [[],[],[],[2],[2,3],[2,3,4],rG 6,rG 7,rG 8] (rG 9) rfl kR kR kR (by rfl) (λ_=>rfl) W.fk ?_;refine bp 27 (λe=> #[pO g]) (λe=> .slice (e 0).A xs.length (e 0).n) rfl (λe p O h=>by(
  have h:=h.fn;refine(qu g xs _ I0 (h.fi 0)).mono ?_;rintro u wy⟨v,rfl,Z⟩;obtain⟨X,r,rfl⟩:=Z.slice;have G:=St.ints (k:= .u8) (xs:=xs) Z;exact⟨⟨X,r,default⟩,rfl,G.pk 3 [1,2,0]⟩)) ?_
 simp only[aW];refine Cn ?_;refine mH (λe=> iI ((k:Nat):Int)) rfl (λe p O h=>gS) ?_;simp only[aW];refine GP (λe=> .slice (some ⟨(e 5).n,0,none⟩) k k) rfl (λe p O h=>by(
  have h:=h.fn;have G:=St.ints (k:= .u8) (xs:=bW k) (h.qT 5 1 k (bv (List.replicate k 0)) abN oM p.heap.size rfl);exact⟨⟨none,p.heap.size,default⟩,_,zL rfl rfl rfl (WR k oM _),G.fk⟩)) ?_
 simp only[aW];refine GP (λe=> .slice (some ⟨(e 6).n,0,none⟩) 3 3) rfl (λe p O h=>by(
  have h:=h.fn;have Z:=h.jd (Q:=λw=>ay w .u8 (.slice (some ⟨(e 5).n,0,none⟩) k k) (bW k));have G:=Z.jd (Q:=λw=>ay w .u8 (.slice A n c) b);have h3:=G.jd (Q:=λw=>ay w .u8 (.slice (e 0).A xs.length (e 0).n) xs);have h4:=St.aar 27 h3;exact⟨⟨none,p.heap.size,default⟩,_,wA rfl rfl rfl rfl (OO _ _ _ _ _ _ _ _ _ _),h4.fk⟩)) ?_
 simp only[aW];refine bp 223 (λe=> #[.slice (some ⟨(e 6).n,0,none⟩) 3 3]) (λe=> .slice (e 7).A 52 (e 7).n) rfl (λe p O h=>by(
  have h:=h.fn;refine(Ce _ [xs,b,bW k] _ (by rw[C.out];omega) (h.fi 4)).mono ?_;rintro u wy⟨X,r,rfl,Z⟩;rw[C.out,D0.out]at Z;rw[C.out];exact⟨⟨X,r,default⟩,rfl,Z.pk 5 [1,2,3,4,0]⟩)) ?_
 simp only[aW];refine nL ?_;refine aA ?_;intro e w1 h;have h:=h.fn;obtain⟨t,a⟩:∃t,(e 7).A=t:=⟨_,rfl⟩;obtain⟨J,d⟩:∃J,(e 7).n=J:=⟨_,rfl⟩;rw[a,d]at h;have K:=aa (h.pk 5 [4,1]);clear h W
 go_wp2_with fail
 rw[a,d];clear a d;have Z:=K.KZ;generalize K0:w1.heap.size=g2 at Z⊢;have l:=aa Z;clear Z K K0;refine(OT hT _ y _ B (l.get 1 rfl) l).mono ?_;rintro u w2⟨rfl,h⟩;have o:=aa h;clear h l;obtain⟨s,V⟩:=nM (rB y);have C0:=zl y;rw[<-V]at C0⊢;have HS:=aa V;have ws:=nZ C0;clear V
 go_wp2_with fail
 refine(dk g2 s 4 [] _ abN o).mono ?_;rintro u w3⟨rfl,h⟩;rw[uQ,zm]at h;have j:=aa h;clear h o
 go_wp2_with fail
 refine(LF g2 q S _ _ E D (by rw[au];omega) j).mono ?_;rintro u w4⟨rfl,h⟩;obtain⟨T,R⟩:=nM (aV s 4++aV q 4++aV S 4);rw[<-R]at h;have U:=aa (show T.length=12 by rw[R];simp only[dB,au]);refine bq R h λG0 z=>?_;clear h j R
 go_wp2_with fail
 refine(qu g2 T _ (by have:=U.out;omega) z).mono ?_;rintro u w5⟨v,rfl,h⟩;obtain⟨A8,c8,rfl⟩:=h.slice;rw[U.out]at h⊢;have P:=St.ints (k:= .u8) (xs:=T) h;have Y:=aa (P.pk 3 [2,0]);clear h P z
 go_wp2_with fail
 have x:=aa (show lens [y,T]=64 by
  unfold lens;simp only[nG,zF,List.sum_cons,List.sum_nil,E0.out,U.out]
  rfl)
 refine(Ce _ [y,T] _ (by rw[x.out];omega) (Y.aaL 27)).mono ?_;rintro u w6⟨A9,c9,rfl,h⟩;rw[x.out,show [y,T].flatten=aR q S b by rw[F0.out,<-HS.out,<-G0.out];simp]at h;rw[x.out];have H9:=aa h;clear h Y
 go_wp2_with fail
 go_ret2
 exact⟨_,_,rfl,H9⟩
def j9(D:DS)(a:Int):Int:=if(aJ D a).q=0 then 41 else 0
def ib(D:DS)(a:Int):LI:=if(aJ D a).q=0 then []else(aJ D a).b
def lH(D:DS)(a:Int)(b:LI):LI:=aR ((aJ D a).q+1) 0 b
def dp(D:DS)(a:Int):Int:=2*a+1-(aJ D a).at_
def p9(D:DS)(a:Int)(b:LI):Int:=if(aJ D a).q=4294967295 then 42 else D.sync.eR (dp D a) (lH D a b)
def qk(D:DS)(a:Int)(b:LI):DS:=if(aJ D a).q=4294967295 then D else D.sync.write (dp D a) (lH D a b)
def cG(D:DS)(a:Int)(b:LI):DS:=if p9 D a b=0 then(qk D a b).sync else qk D a b
def ic(D:DS)(a:Int)(b:LI):Int:=if p9 D a b=0 then(if(qk D a b).sync.down=true then 43 else 0)else p9 D a b
theorem DS.kD(D:DS):D.sync.n=D.n:=by unfold DS.sync;split<;>rfl
theorem DS.zB(D:DS)(i:Int)(b:LI):(D.write i b).n=D.n:=by
 unfold DS.write;split;· rfl
 split;· rfl
 split<;>rfl
theorem DS.Fb(D:DS)(i:Int)(b:LI):(D.write i b).aq.length<=D.aq.length+1:=by
 unfold DS.write;split;· omega
 split;· omega
 split
 ·simp[DS.put,DS.after]
 ·show D.aq.length<=_
  omega
theorem DS.Ij(D:DS):D.sync.aq.length<=D.aq.length:=by
 unfold DS.sync
 split
 ·exact abN
 ·exact io _
theorem mE{N V:LI}{o:Nat}(h:Bytes N)(G:Bytes V):Bytes (bm N o V):=by
 intro x J;unfold bm at J;rcases oc.1 J with J|J
 ·rcases oc.1 J with J|J
  ·exact h x (TH J)
  ·exact G x J
 ·exact h x (TW J)
theorem jQ(k:Nat):Bytes (bW k):=by
 intro x J;rw[ZK J];unfold isByte;omega
theorem DS.Ga(h:Bytes D.seen)(i:Int)(B:Bytes b):Bytes (D.write i b).seen:=by
 unfold DS.write;split;· exact h
 split;· exact h
 split
 ·exact mE h (B.append (jQ _))
 ·exact h
theorem DS.wj(D:DS):D.sync.seen=D.seen:=by unfold DS.sync;split<;>rfl
theorem DS.Jl(h:Bytes D.seen):Bytes D.sync.seen:=by rw[DS.wj];exact h
structure dE(D:DS)(k:Nat):Prop where
 ok:D.ok
 b:Bytes D.seen
 p:D.aq.length<=k
theorem dE.sync(h:dE D k):dE D.sync k:=⟨h.ok.sync,DS.Jl h.b,qJ D.Ij h.p⟩
theorem dE.write(h:dE D k)(i:Int)(B:Bytes b):dE (D.write i b) (k+1):=⟨h.ok.write i b,DS.Ga h.b i B,qJ (D.Fb i b) (zdb h.p)⟩
theorem dE.mono{k m:Nat}(h:dE D k)(p:k<=m):dE D m:=⟨h.ok,h.b,qJ h.p p⟩
theorem dE.put(h:dE D k)(a:Int)(B:Bytes b):dE (qk D a b) (k+1):=by
 unfold qk
 split
 ·exact h.mono oM
 ·exact h.sync.write _ (eA _ _ B)
theorem dE.save(h:dE D k)(a:Int)(B:Bytes b):dE (cG D a b) (k+1):=by
 unfold cG
 split
 ·exact(h.put a B).sync
 ·exact h.put a B
theorem Pg(D:DS)(a:Int)(b:LI):(qk D a b).n=D.n:=by
 unfold qk
 split
 ·rfl
 ·rw[DS.zB,DS.kD]
theorem Lr(D:DS)(a:Int)(b:LI):(cG D a b).n=D.n:=by
 unfold cG
 split
 ·rw[DS.kD,Pg]
 ·exact Pg D a b
theorem yI(g:Nat)(D:DS)(a:Int)(w:World)(T:0<=a/\a+1<(D.n:Int))(h:St I w (di g D::L))(W:D.n<=512):
 Rt I w 138 #[pO g,iI a] (.bool true) (di g D::L):=by
 have d0:decide (a≥0)=true:=dZ T.1;have d:decide (0<=a)=true:=d0;have z:IntKind.i64.wrap ((D.n:Int)-1)=(D.n:Int)-1:=IntWalk.i64_in _ oM;have d1:decide (a<(D.n:Int)-1)=true:=decide_eq_true (by omega);have H:=aa h;clear h;generalize c:(D.n:Int)=N at*;have b:=aa c;clear c
 go_enter func138,ntmps138
 exact ad3
theorem BO(V:kL I)(g k:Nat)(D:DS)(a:Int)(w:World)(C:dE D k)(T:0<=a/\a+1<(D.n:Int))(h:St I w (di g D::L)):
 Calls prog 86 #[pO g,iI a] w λe O=>∃A c,e= .returned (.tuple #[.slice A (ib D a).length c,iW (aJ D a).q,iI (j9 D a)])/\St I O (ai .u8 (.slice A (ib D a).length c) (ib D a)::di g D::L):=by
 refine bq C T λl Q=>?_;have W:=C.ok.n2;have H:=aa h;clear h C
 go_enter func86,ntmps86
 go_wp2_with fail
 refine qH (yI g D a _ Q H W) λz F=>?_;clear H
 go_wp2_with fail
 refine(KF V g D a _ l.ok l.b ab6 F).mono ?_;rintro e y⟨A,c,rfl,h⟩;obtain⟨o,b⟩:=nM (aJ D a);have i:=aa (show ib D a=if o.q=0 then []else o.b by rw[b];rfl);have J:=aa (show j9 D a=if o.q=0 then 41 else 0 by rw[b];rfl);rw[<-b]at h⊢;have n:=aa b;clear b;have Z:=h.alloc 258 #[iI o.at_,iW o.q,.slice A o.b.length c];have S:=(Z.ah 0 rfl).cell 1;have P:=(Z.ah 0 rfl).cell 2;have N:=aa Z.tail;clear h Z F;by_cases d:o.q=0
 ·have u:=Bl d
  refine iG (i.trans (iP d)) (J.trans (iP d)) d λi J E=>?_;clear d
  go_wp2_with fail
  ((try simp only[Exit.inBlock,Exit.then]);refine bodyPost_ret (jr rfl _ _ _) rfl ?_)
  refine⟨none,0,by rw[i.out,J.out,<-n.out,E.out];rfl,?_⟩;rw[i.out];exact(N.tail.bH (R:=λw=>ay w .u8 sN []) (λO _=>ay.none_ O .u8))
 ·have u:=jM d
  refine bq (i.trans (iN d)) (J.trans (iN d)) λi J=>?_;clear d
  go_wp2_with fail
  go_quiet (fail)
  go_wp2_with fail
  ((try simp only[Exit.inBlock,Exit.then]);refine bodyPost_ret (jr rfl _ _ _) rfl ?_)
  refine⟨A,c,by rw[i.out,J.out,<-n.out];rfl,?_⟩;rw[i.out];exact N.drewN _
theorem PJ(u:kL I)(g k:Nat)(D:DS)(a:Int)(A:OA)(n c:Nat)(b:LI)(w:World)(C:dE D k)(hk:k<=900000)(ha:0<=a/\a+1<(D.n:Int))(hn:n<=43)(Y:Bytes b)(h:St I w (di g D::ai .u8 (.slice A n c) b::L)):
 Rt I w 177 #[pO g,iI a,.slice A n c] (iI (p9 D a b)) (di g (qk D a b)::L):=by
 refine bq C ha λl Q=>?_;have B0:=C.ok.n2;refine nK Y (show p9 D a b=if(aJ D a).q=4294967295 then 42 else D.sync.eR (dp D a) (lH D a b)from rfl) (show qk D a b=if(aJ D a).q=4294967295 then D else D.sync.write (dp D a) (lH D a b)from rfl) (show lH D a b=aR ((aJ D a).q+1) 0 b from rfl) λy i J t=>?_;refine iG (show dp D a=2*a+1-(aJ D a).at_ from rfl) (iR C.b a 2) (mR D a 2 (io 2)) λB R x=>?_;have R:Hid (0<=(aJ D a).q/\(aJ D a).q<4294967296/\(aJ D a).b.length<=43/\Bytes (aJ D a).b):=R;have x:Hid ((aJ D a).at_=a\/(aJ D a).at_=a+1):=x;have H:=aa h;clear h C Y
 go_enter func177,ntmps177
 go_wp2_with fail
 refine qH (yI g D a _ Q H B0) λw1 r=>?_;clear H
 go_wp2_with fail
 refine(KF u g D a _ l.ok l.b ab6 r).mono ?_;rintro A0 w2⟨P,U,rfl,h⟩;generalize lH D a b=ps at*;generalize dp D a=pi at*;generalize aJ D a=o at*;obtain⟨E,p,F⟩:=o;have i:Hid (p9 D a b=if p=4294967295 then 42 else D.sync.eR pi ps):=i;have J:Hid (qk D a b=if p=4294967295 then D else D.sync.write pi ps):=J;have t:Hid (ps=aR (p+1) 0 b):=t;have B:Hid (pi=2*a+1-E):=B;have R:Hid (0<=p/\p<4294967296/\F.length<=43/\Bytes F):=R;have x:Hid (E=a\/E=a+1):=x;have Z:=h.alloc 258 #[iI E,iW p,.slice P F.length U];have W:=(Z.ah 0 rfl).cell 0;have S:=(Z.ah 0 rfl).cell 1;have N:=aa (Z.pk 4 [3,2,0]);clear h Z r;obtain⟨M,j⟩:∃M,IntKind.u32.wrap (p+1)=M:=⟨_,rfl⟩;have z:=wrap_u32 (p+1);rw[j]at z;have X:=aa z;clear z
 go_wp2_with fail
 obtain⟨gx,O⟩:=nM (w2.heap.size);rw[<-O]at N W S;rw[<-O];refine(zC u M 0 A n c b _ X dC hn y N).mono ?_;rintro A0 w3⟨T,c3,rfl,h⟩;have y0:=(h.ah 3 rfl).cell 0;have y1:=(h.ah 3 rfl).cell 1;have K:=aa h;clear h N W S O;by_cases d:p=4294967295
 ·have e:=Bl d
  refine bq (i.trans (iP d)) (J.trans (iP d)) λi J=>?_;clear d
  go_wp2_with fail
  go_ret
  rw[i.out,J.out];exact⟨rfl,K.sub⟩
 ·have e:=jM d
  refine bq (i.trans (iN d)) (J.trans (iN d)) λi J=>?_;have t:=aa (show ps=aR M 0 b by
   rw[t.out,<-j,show IntKind.u32.wrap (p+1)=(p+1)%4294967296 from rfl]
   congr 1
   have:=R.out;omega)
  clear d j
  go_wp2_with fail
  refine qK (yg l.ok (by have:=l.p;omega) (K.fi 2)) λw4 h=>?_;have z0:=(h.ah 3 rfl).cell 0;have q:=aa h;clear h K y0 y1;have v1:IntKind.i64.wrap (2*a)=2*a:=IntWalk.i64_in _ ab6;have v2:IntKind.i64.wrap (2*a+1)=2*a+1:=IntWalk.i64_in _ ab6;have v3:IntKind.i64.wrap (2*a+1-E)=pi:=(IntWalk.i64_in _ (by have:=Q.out;have:=x.out;omega)).trans B.symm
  go_wp2_with fail
  have G:=l.sync;refine qK (yG pi (.slice T 64 c3) (aR M 0 b) 0 G.ok (by have:=G.p;omega) rfl q) λw5 h=>?_;rw[<-t.out]at h⊢;have V:=aa h;clear h q
  go_wp2_with fail
  go_ret
  rw[i.out,J.out];exact⟨rfl,V.sub⟩
theorem BC(u:kL I)(g k:Nat)(D:DS)(a:Int)(A:OA)(n c:Nat)(b:LI)(w:World)(C:dE D k)(Q:k<=900000)(T:0<=a/\a+1<(D.n:Int))(W:n<=43)(B:Bytes b)(h:St I w (di g D::ai .u8 (.slice A n c) b::L)):
 Rt I w 142 #[pO g,iI a,.slice A n c] (iI (ic D a b)) (di g (cG D a b)::L):=by
 refine nK (C.put a B) (PJ u g k D a A n c b w C Q T W B h) (show ic D a b=if p9 D a b=0 then(if(qk D a b).sync.down=true then 43 else 0)else p9 D a b from rfl) (show cG D a b=if p9 D a b=0 then(qk D a b).sync else qk D a b from rfl) λd M i J=>?_;generalize p9 D a b=pe at*;generalize qk D a b=pd at*;clear h C B
 go_enter func142,ntmps142
 go_wp2_with fail
 refine qH M λz F=>?_;clear M;by_cases P:pe=0
 ·subst P
  refine bq (i.trans (iP rfl)) (J.trans (iP rfl)) λi J=>?_
  go_wp2_with fail
  refine qH (yg d.ok (by have:=d.p;omega) F) λy N=>?_;clear F;obtain⟨t,R⟩:∃t,pd.sync.down=t:=⟨_,rfl⟩
  go_wp2_with fail
  refine qK (yq N) λY h=>?_;rw[R];refine bq h R λK r=>?_;clear h N R
  cases t
  all_goals
   go_wp2_with fail
   go_ret
   rw[i.out,J.out,r.out];exact⟨rfl,K⟩
 ·have j:=jM P
  refine bq (i.trans (iN P)) (J.trans (iN P)) λi J=>?_;clear P
  go_wp2_with fail
  go_ret
  rw[i.out,J.out];exact⟨rfl,F⟩
structure Sc where
 ar:Int
 nu:Int
 sz:Int
 ok:Bool
def Cx:Sc:=⟨1,0,0,false⟩
def XN(b:LI):Rd:=((((Rd.mk b false).num 1).2.num 4).2.num 2).2
def Dw(b:LI):Sc:=⟨((Rd.mk b false).num 1).1,(((Rd.mk b false).num 1).2.num 4).1,((((Rd.mk b false).num 1).2.num 4).2.num 2).1,true⟩
def nT(b:LI):Sc:=if(XN b).kw≠0\/(Dw b).ar>1 then Cx else Dw b
def cM(D:DS)(a:Int):Sc:=if j9 D a=0 then nT (ib D a)else Cx
def eW(m:Sc):LI:=aV m.ar 1++aV m.nu 4++aV m.sz 2
theorem Gh(h:Bytes b)(F:b.length<=100000):0<=(nT b).ar/\(nT b).ar<=1/\0<=(nT b).nu/\(nT b).nu<4294967296/\0<=(nT b).sz/\(nT b).sz<65536:=by
 have C:Rd.Ok (Rd.mk b false):=⟨h,by show b.length<=140737488355328;omega,λh=>by cases h⟩;unfold nT
 split
 ·decide
 ·rename_i D
  have Z:=Rd.mJ C;have G:=Rd.lB (C.num 1);have M:=Rd.Ay (((Rd.mk b false).num 1).2.num 4).2 ((C.num 1).num 4).hb 2 oM oM;have S:¬(Dw b).ar>1:=λh=>D (.inr h);exact⟨Z.1,oM,G.1,G.2,M.1,M.2⟩
theorem iF(h:Bytes D.seen)(a:Int):0<=(cM D a).ar/\(cM D a).ar<=1/\0<=(cM D a).nu/\(cM D a).nu<4294967296/\0<=(cM D a).sz/\(cM D a).sz<65536:=by
 unfold cM
 split
 ·have R:=iR h a 2
  refine Gh ?_ ?_
  ·unfold ib
   split
   ·exact Bytes.nil
   ·exact R.2.2.2
  ·unfold ib
   split
   ·exact abN
   ·have:=R.2.2.1
    show(dM D a 2).b.length<=_;omega
 ·decide
theorem Bp(h:Bytes D.seen)(a:Int):(ib D a).length<=43/\Bytes (ib D a):=by
 have R:=iR h a 2;unfold ib
 split
 ·exact⟨by simp,Bytes.nil⟩
 ·exact⟨R.2.2.1,R.2.2.2⟩
theorem BK(g:Nat)(D:DS)(a:Int)(w:World)(T:0<=a/\a+44<=(D.n:Int))(W:D.n<=512)(h:St I w (di g D::L)):
 Rt I w 128 #[pO g,iI a,iI 21] (iI 0) (di g D::L):=by
 have d0:decide (a<0)=false:=decide_eq_false (by omega);have H:=aa h;clear h;generalize c:(D.n:Int)=N at*;have z:IntKind.i64.wrap (N-2)=N-2:=IntWalk.i64_in _ oM;have R:IntKind.i64.wrap (N-2-42)=N-2-42:=IntWalk.i64_in _ oM;have d1:decide (a>N-2-42)=false:=decide_eq_false (by omega);have d:decide (N-2-42<a)=false:=d1;have b:=aa c;clear c
 go_enter func128,ntmps128
 exact ad3
theorem Jv(w:World):Calls prog 130 #[iI 21] w λe O=>e= .returned (iI 903)/\∃n,O=w.drewN n:=by
 go_enter func130,ntmps130
 go_wp2_with fail
 go_ret
 exact⟨rfl,0,rfl⟩
theorem EM(hT:kL I)(g k:Nat)(D:DS)(a:Int)(w:World)(C:dE D k)(ha:0<=a/\a+1<(D.n:Int))(h:St I w (di g D::L)):
 Rt I w 129 #[pO g,iI a] (.tuple #[.agg #[iI (cM D a).ar,iW (cM D a).nu,iI (cM D a).sz],.bool (cM D a).ok]) (di g D::L):=by
 refine nK C ha (Bp C.b a) (show cM D a=if j9 D a=0 then nT (ib D a)else Cx from rfl) λHD U Y X=>?_;have Z:=h.alloc 246 #[iI 0,iW 0,iI 0];obtain⟨gr,S⟩:=nM (w.heap.size);rw[<-S]at Z;refine bq Z.swap S λH o=>?_;clear h Z C S
 go_enter func129,ntmps129
 go_wp2_with fail
 rw[<-o.out];refine(BO hT g k D a _ HD U H).mono ?_;rintro A0 w1⟨D0,G0,rfl,h⟩;have F:=aa h;clear h H;generalize ib D a=b at*;generalize j9 D a=le at*;generalize(aJ D a).q=lq at*;by_cases B:le=0
 ·have i:=aa (X.trans (iP B))
  subst B;have Q:=aa (show nT b=if(XN b).kw≠0\/(Dw b).ar>1 then Cx else Dw b from rfl);have P:Rd.Ok (Rd.mk b false):=⟨Y.2,by show b.length<=140737488355328;have:=Y.1;omega,λh=>by cases h⟩;have y:=aa P;have t:=aa (show XN b=((((Rd.mk b false).num 1).2.num 4).2.num 2).2 from rfl);have x:=aa (show Dw b=⟨((Rd.mk b false).num 1).1,(((Rd.mk b false).num 1).2.num 4).1,((((Rd.mk b false).num 1).2.num 4).2.num 2).1,true⟩from rfl);clear P X
  go_wp2_with fail
  refine(ou _ b _ F).mono ?_;rintro A0 w2⟨r,rfl,h⟩;have N:=aa h;clear h F
  go_wp2_with fail
  refine bq (Rd.mJ y) (y.num 1) λc G=>?_;refine qH (bN r _ 1 _ y.hb y.hl y.hz N) λw3 K=>?_;clear N;generalize XN b=rr at*;generalize Dw b=mo at*;generalize((Rd.mk b false).num 1).2=r1 at*;generalize((Rd.mk b false).num 1).1=x0 at*;have v0:IntKind.i64.wrap x0=x0:=IntWalk.i64_in _ (by have:=c.out;omega)
  go_wp2_with fail
  refine bq (Rd.lB G) (G.num 4) λd p=>?_;refine qH (bN r _ 4 _ G.hb G.hl G.hz K) λw4 q=>?_;clear K;generalize(r1.num 4).2=r2 at*;generalize(r1.num 4).1=x1 at*;have v1:IntKind.u32.wrap x1=x1:=eP d
  go_wp2_with fail
  refine bq (Rd.Ay r2 p.hb 2 oM oM) (p.num 2) λO F0=>?_;refine qK (bN r _ 2 _ p.hb p.hl p.hz q) λw5 h=>?_;have O:Hid (0<=(r2.num 2).1/\(r2.num 2).1<65536):=O;generalize(r2.num 2).2=r3 at*;generalize(r2.num 2).1=x2 at*;have v2:IntKind.i64.wrap x2=x2:=IntWalk.i64_in _ (by have:=O.out;omega);have u:=h.alloc 246 #[iI x0,iW x1,iI x2];obtain⟨gm,W⟩:=nM (w5.heap.size);rw[<-W]at u;refine bq u.swap W λV E=>?_;clear h u q W
  go_wp2_with fail
  rw[<-E.out];refine qK (qU r r3 _ V) λw6 h=>?_;have j:=aa (h.pk 5 [4,1,3]);have y0:=(j.ah 0 rfl).cell 0;have y1:=(j.ah 0 rfl).cell 1;have y2:=(j.ah 0 rfl).cell 2;have f:=(j.ah 0 rfl).frozen;have z0:=(j.ah 1 rfl).cell 0;have z1:=(j.ah 1 rfl).cell 1;have z2:=(j.ah 1 rfl).cell 2;clear h V E o;have t:Hid (rr=r3):=t;have x:Hid (mo=⟨x0,x1,x2,true⟩):=x;obtain⟨t1,B0⟩:∃t1,(r3.kw !=0)=t1:=⟨_,rfl⟩;obtain⟨t2,z⟩:∃t2,decide (x0>1)=t2:=⟨_,rfl⟩;have H0:decide (1<x0)=t2:=z;have n:=aa (show nT b=if(t1||t2)=true then Cx else mo by
   rw[Q.out,t.out,x.out]
   congr 1
   rw[<-B0,<-z];simp)
  by_cases R:(t1||t2)=true
  ·have M:=aa (i.trans (n.trans (iP R)))
   have l:=((j.bx 0 (iI 1) #[iI 1,iW 0,iI 0]).bx 1 (iW 0) #[iI 1,iW 0,iI 0]).bx 2 (iI 0) #[iI 1,iW 0,iI 0];have e:=(l.ah 0 rfl).cell 0;have A:=(l.ah 0 rfl).cell 1;have J:=(l.ah 0 rfl).cell 2;have T:=aa l.tail.tail;clear l j
   cases t1
   case' false=>cases t2
   case' false.false=>exact absurd R dC
   all_goals
    clear R
    go_wp2_with fail
    refine bodyPost_ret (eX (v:= .agg #[iI 1,iW 0,iI 0]) rfl _ rfl ?_) rfl (by rw[M.out];exact⟨rfl,T⟩);go_simp
  ·have M:=aa (i.trans (n.trans (iN R)))
   have l:=((j.bx 0 (iI x0) #[iI x0,iW 0,iI 0]).bx 1 (iW x1) #[iI x0,iW x1,iI 0]).bx 2 (iI x2) #[iI x0,iW x1,iI x2];have e:=(l.ah 0 rfl).cell 0;have A:=(l.ah 0 rfl).cell 1;have J:=(l.ah 0 rfl).cell 2;have T:=aa l.tail.tail;clear l j;have C0:t1=false/\t2=false:=by simpa using R
   obtain⟨rfl,rfl⟩:=C0;clear R
   go_wp2_with fail
   refine bodyPost_ret (eX (v:= .agg #[iI x0,iW x1,iI x2]) rfl _ rfl ?_) rfl (by rw[M.out,x.out];exact⟨rfl,T⟩);go_simp
 ·have i:=aa (X.trans (iN B))
  have b1:=Oc B;have N:=aa (F.pk 3 [2,1]);have y0:=(N.ah 0 rfl).cell 0;have y1:=(N.ah 0 rfl).cell 1;have y2:=(N.ah 0 rfl).cell 2;have f:=(N.ah 0 rfl).frozen;have l:=((N.bx 0 (iI 1) #[iI 1,iW 0,iI 0]).bx 1 (iW 0) #[iI 1,iW 0,iI 0]).bx 2 (iI 0) #[iI 1,iW 0,iI 0];have e:=(l.ah 0 rfl).cell 0;have A:=(l.ah 0 rfl).cell 1;have J:=(l.ah 0 rfl).cell 2;have T:=aa l.tail;clear l F N B o
  go_wp2_with fail
  refine bodyPost_ret (eX (v:= .agg #[iI 1,iW 0,iI 0]) rfl _ rfl ?_) rfl (by rw[i.out];exact⟨rfl,T⟩);go_simp
theorem NW(m:Sc)(w:World)(W:0<=m.ar/\m.ar<=1)(Z:0<=m.nu/\m.nu<4294967296)(G:0<=m.sz/\m.sz<=100000)(h:St I w L):
 Calls prog 232 #[.agg #[iI m.ar,iW m.nu,iI m.sz]] w λe O=>∃A c,e= .returned (.slice A 7 c)/\St I O (ai .u8 (.slice A 7 c) (eW m)::L):=by
 obtain⟨g,l,d,_⟩:=m;have q:IntKind.u64.wrap g=g:=IntWalk.u64_in _ (by show 0<=g/\_;have:0<=g/\g<=1:=W;omega);have u:IntKind.u64.wrap l=l:=nZ Z;have y:IntKind.u64.wrap d=d:=IntWalk.u64_in _ (by show 0<=d/\_;have:0<=d/\d<=100000:=G;omega);have M:=h.alloc 246 #[iI g,iW l,iI d];obtain⟨B,p⟩:=nM (w.heap.size);rw[<-p]at M;have S:=M.KZ;rw[World.size_alloc]at S;have D:=(S.ah 1 rfl).cell 0;rw[p]at D;refine bq S p λH a=>?_;clear h W Z G M S p
 go_enter func232,ntmps232
 go_wp2_with fail
 refine qK (dk (w.heap.size+1) g 1 [] _ abN H) λz h=>?_;rw[LA,zm]at h;have Y:=(h.ah 1 rfl).cell 1;have F:=aa h;clear h H D;rw[a.out]at Y
 go_wp2_with fail
 refine qK (dk (w.heap.size+1) l 4 _ _ (by simp only[au];omega) F) λR h=>?_;rw[uQ]at h;have P:=(h.ah 1 rfl).cell 2;have N:=aa h;clear h F Y;rw[a.out]at P
 go_wp2_with fail
 refine qK (dk (w.heap.size+1) d 2 _ _ (by simp only[dB,au];omega) N) λo h=>?_;rw[show bM d 2=aV d 2 from rfl]at h;have K:=aa h;clear h N P
 go_wp2_with fail
 refine(qu (w.heap.size+1) _ _ (by simp only[dB,au];omega) K).mono ?_;rintro e t⟨v,rfl,h⟩;obtain⟨A,c,rfl⟩:=h.slice;have U:=St.ints (k:= .u8) (xs:=aV g 1++aV l 4++aV d 2) h;have C:(aV g 1++aV l 4++aV d 2).length=7:=by simp only[dB,au]
 rw[C]at U⊢;have V:=aa (U.pk 3 [0]);clear h U K C
 go_wp2_with fail
 go_ret
 exact⟨A,c,rfl,V⟩
end Go.Proofs.YtblpaldggenbaaaGreatDoor
