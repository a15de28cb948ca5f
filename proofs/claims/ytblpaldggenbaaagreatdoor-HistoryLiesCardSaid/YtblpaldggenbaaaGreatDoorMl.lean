/- A part. -/
import Derived.Test.YtblpaldggenbaaaGreatDoorMk
import Derived.Test.YtblpaldggenbaaaGreatDoorMh
namespace Go.Proofs.YtblpaldggenbaaaGreatDoor
open Go.RowKit Go.Proofs.Tryz
set_option maxRecDepth 100000
set_option maxHeartbeats 64000000
variable{I:aH}
theorem St.VM{X:Type}{w:World}{L:List aw}{e:TypeId}{size:Nat}{R:World->LV->X->Prop}{A:OA}{n c:Nat}{T:List X}(h:St I w (ay e size R (.slice A n c) T::L))(K:0<size){k:Nat}{x:X}(F:T[k]? =some x):
 ∃Y N,A=some Y/\N.length=size/\(∀j u,N[j]? =some u->w.cell? (Y.add (k*size+j))=some u)/\R w N x/\n=T.length/\St I w (aS (λO=>R O N x)::ay e size R (.slice A n c) T::L):=by
 obtain⟨U,W,C,Z⟩:=h.bK;have B:=(lQ.1 F).1;have p:(k+1)*size<=n*size:=vl _ oM;rw[vq,Co]at p;have P:=Z.sl;have G:=Z.get 1 rfl k x F;obtain⟨Y,r,_,_,D⟩:=P.2 oM;refine⟨Y,(U.drop (k*size)).take size,r,by rw[fJ,km];omega,λj u E=> ?_,G,W,?_⟩
 ·refine D (k*size+j) u ?_
  rw[AH]at E
  split at E
  ·rwa[xV]at E
  ·cases E
 ·have V:=(Z.copy 1 rfl).bu (R':=λO=>R O ((U.drop (k*size)).take size) x) (λO G=>G k x F)
  have M:=V.sh;subst W;exact(St.cZ (f:=λU=>aX (bY e size (.slice A T.length c) T.length U) (aS (λw=>∀(i:Nat) x,T[i]? =some x->R w ((U.drop (i*size)).take size) x))) U M.aM).swap
def JM.all(J:JM):List (LI):=J.held.map Prod.snd
theorem TT{L:List aw}(g j:Nat)(J:JM)(w:World)(X:vR J)(h:St I w (jR g j J::L)):
 Calls prog 90 #[pO g] w λe O=>∃E0,e= .returned E0/\St I O (aB 1 dP E0 J.all::jR g j J::L):=by
 obtain⟨A,c,Z⟩:=h.jO;obtain⟨U,S,T,P,u,C⟩:=J;have hn:C.length<=100:=by have:=X.h0;have:=X.n0;simp only at*;omega
 have hb:∀x∈C,x.2.length<=43:=λx B=>(X.b0 x B).1;have E:Hid (JM.all ⟨U,S,T,P,u,C⟩=C.map Prod.snd):=rfl;have Z:St I w (ab g 196 #[pO j,iI U,iI (S:Nat),iW T,iW P,iW u,.slice A C.length c]::ay 262 2 fN (.slice A C.length c) C::L):=Z;have c6:=(Z.ah 0 rfl).cell 6;generalize d:C.length=n at*;refine ib d hb Z λb HB H=>?_;clear h Z X d hb
 go_enter func90,ntmps90
 go_wp2_with fail
 clear c6
 go_loopg [3,11] n (λgh out i wr=>∃k q G p,gh=n-k/\k<=n/\i= iI (k:Nat)/\out= .slice G q p/\q=k/\St I wr (ay 27 1 dP (.slice G q p) ((C.map Prod.snd).take k)::ay 262 2 fN (.slice A n c) C::ab g 196 #[pO j,iI U,iI (S:Nat),iW T,iW P,iW u,.slice A n c]::L))
 case atStart=>exact⟨0,0,none,0,rfl,oM,rfl,rfl,rfl,(H.swap).dU 27 1 dP⟩
 case round=>
  obtain⟨k,q,G,p,hg,hk,rfl,rfl,d,h⟩:=hrel;have HG:=aa hg;clear hg H;by_cases A0:k<n
  ·have B:=gP (l:=C) (i:=k) (by rw[b.out];exact A0)
   generalize C[k]'(by rw[b.out];exact A0)=x at B;obtain⟨N,cs,rfl,_,V,⟨t,o,rfl,M⟩,hz,K⟩:=h.swap.VM dC B;have D0:x.2.length<=43:=HB.out x (pJ B);have W:(C.map Prod.snd)[k]? =some x.2:=by rw[wO,B];rfl
   obtain⟨xe,r⟩:=x;have k0:wr.cell? (N.add (k*2))=some (iW xe):=V 0 _ rfl;have D:wr.cell? ((N.add (k*2)).add 1)=some (.slice t r.length o):=by rw[dk];exact V 1 _ rfl
   have D:wr.cell? ⟨(N.add (k*2)).block,(N.add (k*2)).off+1,none⟩=some (.slice t r.length o):=D;have D0:r.length<=43:=D0;have W:(C.map Prod.snd)[k]? =some r:=W;have M:aA wr .u8 (.slice t r.length o) r:=M;have HX:=aa W;have K:=K.bu (R':=λO=>aA O .u8 (.slice t r.length o) r) (λO z=>by obtain⟨A9,c9,y,z⟩:=z;injection y with _ y;injection y with y _;rw[y];exact z);refine ib (λH0:Obj=>((K.nP H0).get 0 rfl).sl.2.2.2) d h λF0 Y H=>?_;generalize B0:r.length=nx at*;have I0:=aa B0;clear B W V h M d B0 K hz
   go_wp2_with fail
   refine(dY t nx o r _ (F0 _) oM (H.nP _)).mono ?_;rintro e w2⟨v2,rfl,h⟩;obtain⟨a,R,rfl⟩:=h.slice;obtain⟨J0,d,C0,Q⟩:=(h.ints.swap).bK;refine bm (Q.nP (.cells #[.slice a nx R] 27)) C0 λH3 G0=>?_;have K0:q<=1000:=by have:=Y.out;omega
   clear h Q d C0 k0 D H
   go_wp2_with (at_builtin;refine St.dW py H3 rfl _ _ rfl rfl (aO w2.heap.size) 1 1 rfl [.slice a nx R] (uv _ _ _) ac8 oM oM ?_;intro A4 c4 w4 h4)
   go_roundg (n-(k+1))
   case measure=>exact ad5
   case rel=>
    refine⟨k+1,q+1,A4,c4,rfl,oM,by go_num,rfl,by rw[Y.out],?_⟩;rw[r7 HX.out];have F:=(h4.tX.bu (R':=λO=>dP O [.slice a nx R] r) (λO z=>⟨_,rfl,z⟩));exact F.sh.fR (by rw[fJ,nL,Y.out,b.out];omega) rfl G0
  ·obtain rfl:k=n:=oM
   rw[nS (by rw[nL,b.out];exact g9 _)]at h;refine bm h d λH Y=>?_;clear h d
   go_wp2_with fail
   go_ret
   refine⟨_,rfl,?_⟩;rw[E.out];obtain⟨_,_,_,F⟩:=H.out.bK;have h6:=F.rows (by rw[nL,b.out];exact Y.out);have h7:=h6.pk 3 [2,1,0];exact(St.zQ b.symm h7).swap
section
open Go.Shelf
def JM.oU(J:JM)(b:LI):JM:={J with held:=J.held++[(J.ep,b)]}
def JM.wE(J:JM)(D:DS)(b:LI):Int:=D.eU (J.sec J.next) (aP J.next J.ep b)
def JM.CH(J:JM)(D:DS)(b:LI):DS:=D.write (J.sec J.next) (aP J.next J.ep b)
theorem Lj{L:List aw}(hT:ml I)(g j kk:Nat)(D:DS)(J:JM)(R:OA)(T Y:Nat)(b:LI)(w:World)(hD:dB D kk)(Q0:kk<900000)(H:vR J)(B:J.held.length<J.n)(hb:Bytes b)(hn:T<=43)(h:St I w (ai .u8 (.slice R T Y) b::jR g j J::da j D::L)):
 Rt I w 220 #[pO g,.slice R T Y] (iI (J.wE D b)) (jR g j (J.oU b)::da j (J.CH D b)::L):=by
 have E0:T=b.length:=(h.get 0 rfl).sl.1;obtain⟨A,c,Z⟩:=h.swap.jO;obtain⟨U,S,o,z,N,C⟩:=J;have B:C.length<S:=B;refine bm (show 0<=U/\U<=1000 from H.a0) (show 1<=S/\S<=100 from H.n0) λH0 K=>?_;have O0:0<=o/\o<=4000000000:=H.f0;refine bm (show 0<=z/\z<4294967296 from H.e0) hD λI0 HD=>?_;have Z:St I w (ab g 196 #[pO j,iI U,iI (S:Nat),iW o,iW z,iW N,.slice A C.length c]::ay 262 2 fN (.slice A C.length c) C::ai .u8 (.slice R T Y) b::da j D::L):=Z;obtain⟨k,F⟩:=nM (C.length);rw[<-F]at Z B;have P0:k<100:=by have:=K.out;omega
 obtain⟨q,P⟩:=nM (o+(k:Int));obtain⟨l,x⟩:=nM (U+2+q%(S:Nat));obtain⟨E,i⟩:=nM (aP q z b);have EI:=aa (show JM.wE ⟨U,S,o,z,N,C⟩ D b=D.eU l E by rw[i,x,P,F];rfl);have EB:=aa (show JM.CH ⟨U,S,o,z,N,C⟩ D b=D.write l E by rw[i,x,P,F];rfl);have R0:S<=100:=K.2;have V:=aa (show 0<=q/\q<4294967296 by omega);have wq:IntKind.u32.wrap q=q:=eT V;have d1:decide (q>4294967295)=false:=decide_eq_false (by omega);have M0:decide (4294967295<q)=false:=d1;have d2:((k:Int)==(S:Int))=false:=kO oM;have d3:decide ((k:Int)=(S:Int))=false:=decide_eq_false (by omega);have d4:(k==S)=false:=beq_eq_false_iff_ne.2 oM;have d5:decide (k=S)=false:=decide_eq_false (by omega);have c2:=(Z.ah 0 rfl).cell 2;have c4:=(Z.ah 0 rfl).cell 4;have x6:=(Z.ah 0 rfl).cell 6;have M:=aa (λn=>DR g j U S o z N A k c (w.drewN n) oM oM ((Z.ah 0 rfl).drewN n));rw[<-P]at M;refine xH Z F.symm E0 x i hb λA0 HK B0 G0 J0 HB=>?_;have dn:decide ((T:Int)>43)=false:=decide_eq_false (by omega);have N0:decide (43<T)=false:=decide_eq_false (by omega);clear h Z H hD F P x i E0 hb B O0
 go_enter func220,ntmps220
 go_wp2_with fail
 go_quiet ((go_at_call 140;exact Calls.quiet_of (M _)))
 go_wp2_with (go_at_call 140;refine(M _).mono ?_;rintro e w6⟨rfl,nn,rfl⟩)
 refine(zx hT q z R T Y b _ V I0 hn HB ((A0.drewN _).pk 3 [2,0,1])).mono ?_;rintro u w2⟨X,t,rfl,h⟩;rw[<-J0.out]at h;have h0:=h.pk 4 [2,3,1,0];clear h A0 M c2 c4 x6 d1 M0 d2 d3 d4 d5 dn N0
 go_wp2_with fail
 refine ak (I:=I) (L0:=ai .u8 (.slice X 64 t) E::da j D::L) [⟨none,some 16,λe=>ab g 196 #[pO j,iI U,iI (S:Nat),iW o,iW z,iW N,.slice A k c]⟩,⟨none,some 13,λe=>ay 262 2 fN (.slice A k c) C⟩,⟨none,none,λe=>ai .u8 (.slice R T Y) b⟩,⟨some 10,none,λe=>aS (λw=>fN w [iW z,.slice (e 10).A T (e 10).n] (z,b))⟩,⟨some 12,none,λe=>ab (e 12).n 262 #[iW z,.slice (e 10).A T (e 10).n]⟩,⟨some 13,none,λe=>ay 262 2 fN (.slice (e 13).A (k+1) (e 13).n) (C++[(z,b)])⟩,⟨some 16,none,λe=>ab g 196 #[pO j,iI U,iI (S:Nat),iW o,iW z,iW N,.slice (e 13).A (k+1) (e 13).n]⟩] [[],[],[1],[1,2],[1,2,3],[],[5],[5,6],[5,6,7],[],[9],[5,6,7,8,9,10],[5,6,7,8,9,10,11],[1,2,3,4,5,6,7,8,9,10,11,12],rG 14,rG 15,rG 16] (rG 17) rfl kR kR kR (by rfl) (λ_=>rfl) h0.fk ?_;refine Qq ?_;refine aZ 23 (λe=> #[.slice R T Y]) (λe=> .slice (e 10).A T (e 10).n) rfl (λe p O h=>by(
  have h:=h.fn;refine(dY R T Y b _ (h.jr (Q:=λw=>aA w .u8 (.slice R T Y) b)).sl.2.2.2 oM h).mono ?_;rintro u y⟨v,rfl,Z⟩;obtain⟨G,r,rfl⟩:=Z.slice;have W:=(St.ints (k:= .u8) (xs:=b) Z).bu (R':=λw=>fN w [iW z,.slice G T r] (z,b)) (λK0 hi=>⟨G,r,by rw[show(z,b).2.length=T from B0.out.symm],by rw[show(z,b).2.length=T from B0.out.symm];exact hi⟩);exact⟨⟨G,r,default⟩,rfl,W.fk⟩)) ?_
 simp only[aR];refine kj (λe=> .agg #[iW z,.slice (e 10).A T (e 10).n]) rfl (λe p O h=>gS) ?_;simp only[aR];refine xN (λe=> .slice (some ⟨(e 12).n,0,none⟩) 1 1) rfl (λe p O h=>by(
  have h:=h.fn;exact⟨⟨none,p.heap.size,default⟩,_,cM rfl rfl (Kf _ _ _ _ _),((h.alloc 262 #[iW z,.slice (e 10).A T (e 10).n])).fk⟩)) ?_
 simp only[aR];refine xN (λe=> .slice (e 13).A (k+1) (e 13).n) rfl (λe p O h=>by(
  have h:=h.fn;have hz:=LA (cs:=[iW z,.slice (e 10).A T (e 10).n]) (h.ah 4 rfl);obtain⟨G,r,K0,F0,W⟩:=((h.jT (Q:=λw=>fN w [iW z,.slice (e 10).A T (e 10).n] (z,b))).pk 3 [2,0,1]).yB BN _ ⟨(e 12).n,0,none⟩ 1 hz (FA _ _ _ _) rfl oM oM;exact⟨⟨G,r,default⟩,_,gL rfl rfl rfl F0,W.fk⟩)) ?_
 simp only[aR];refine vM ?_;refine jA (λe=> .pointer (some ⟨g,6,none⟩)) (λe=> .slice (e 13).A (k+1) (e 13).n) rfl rfl (λe p O h=>by(
  have h:=h.fn;have x6:=(h.ah 0 rfl).cell 6;have f:=(h.ah 0 rfl).frozen;have Z:=(h.fi 0).br 6 (.slice (e 13).A (k+1) (e 13).n) #[pO j,iI U,iI (S:Nat),iW o,iW z,iW N,.slice (e 13).A (k+1) (e 13).n];exact⟨_,gS,Z.fk⟩)) ?_
 simp only[Act.put];refine ax ?_;intro e w1 h;have h:=h.fn;obtain⟨a,C0⟩:∃a,(e 13).A=a:=⟨_,rfl⟩;obtain⟨d,D0⟩:∃d,(e 13).n=d:=⟨_,rfl⟩;rw[C0,D0]at h;have H7:=aa (h.pk 7 [4,5,6,3]);clear h h0
 go_wp2_with fail
 clear C0 D0;refine ak (I:=I) (L0:=ay 262 2 fN (.slice a (k+1) d) (C++[(z,b)])::L) [⟨none,none,λe=>ab g 196 #[pO j,iI U,iI (S:Nat),iW o,iW z,iW N,.slice a (k+1) d]⟩,⟨none,none,λe=>ai .u8 (.slice X 64 t) E⟩,⟨none,some 8,λe=>da j D⟩,⟨some 8,none,λe=>da j (D.write l E)⟩] [[],[0],[0,1],rG 3,[],[],[4,5],[],rG 8,rG 9] (rG 10) rfl kR kR kR (by rfl) (λ_=>rfl) H7.fk ?_;refine Lb ?_;refine aZ 141 (λe=> #[pO g,iW q]) (λe=> iI l) rfl (λe p O h=>by(
  have h:=h.fn;refine(Hg g j U S o z N q a (k+1) d _ (by have:=V.out;omega) H0 K (h.ah 0 rfl)).mono ?_;rintro u y⟨rfl,nn,hw⟩;rw[<-G0.out];have F:St I y (ab g 196 #[pO j,iI U,iI (S:Nat),iW o,iW z,iW N,.slice a (k+1) d]::ai .u8 (.slice X 64 t) E::da j D::O):=(by rw[hw];exact(h.drewN nn).sub);exact⟨⟨none,0,default⟩,rfl,F⟩)) ?_
 simp only[aR];refine lY ?_;refine aZ 206 (λe=> #[pO j,iI l,.slice X 64 t]) (λe=> iI (D.eU l E)) rfl (λe p O h=>by(
  have h:=h.fn;refine(yw l (.slice X 64 t) E 0 HD.ok (by have:=HD.p;omega) rfl ((h.fi 1).fi 2)).mono ?_;rintro u y⟨rfl,Z⟩;exact⟨⟨none,0,default⟩,rfl,Z.fk⟩)) ?_
 simp only[aR];refine lY ?_;refine ax ?_;intro e w1 h;have h:=h.fn;have H9:=aa (h.pk 4 [0,3,2]);clear h H7
 go_wp2_with fail
 go_ret
 rw[EI.out,EB.out];exact⟨rfl,St.zQ (by rw[eG,HK.out];rfl) H9⟩
end
def abF(X:LI)(I:aH)(L:List aw)(O:World)(e:Ending):Prop:=
 ∃p,e= .returned (.tuple #[.pointer p,iI (uZ X)])/\(uZ X=0->∃g,p=some ⟨g,0,none⟩/\St I O (dL g (Rd.gz ⟨X,false⟩ 4).1::L))/\(uZ X≠0->p=none)/\St I O L
theorem XP{L:List aw}(v:Value)(X:LI)(w:World)(hb:Bytes X)(hl:X.length<=1000000)(h:St I w (ai .u8 v X::L)):
 Calls prog 84 #[v] w λe O=>abF X I L O e:=by
 have Y0:Rd.Ok (Rd.mk X false):=⟨hb,by show X.length<=140737488355328;omega,λh=>by cases h⟩;refine bm (λk=>Y0.gz k) h λD1 H=>?_;clear h hb hl Y0
 go_enter func84,ntmps84
 go_wp2_with fail
 refine(ox v X _ H).mono ?_;rintro e w1⟨y,rfl,h⟩;have H1:=aa (h.tS);clear H h
 go_wp2_with fail
 have V:=((H1.alloc 253 #[pO y]).Ue).alloc 4 #[.bool true];simp only[World.size_alloc]at V;generalize w1.heap.size=s at*;have T:=aa (V.pk 5 [3,0,4,1,2]);clear H1 V
 go_loopg [17] 4 (λgh i wr=>∃(k:Nat) (U:Nat->RV),gh=4-k/\k<=4/\i= iI (k:Nat)/\(∀i,k<=i->i<4->(U i).log= sN)/\St I wr (ab s 253 #[pO y]::ab (s+1+1) 4 #[.bool (lI (Rd.gz ⟨X,false⟩ k).1 k)]::po y (Rd.gz ⟨X,false⟩ k).2::im (s+1) U (Rd.gz ⟨X,false⟩ k).1::dx U (Rd.gz ⟨X,false⟩ k).1::L))
 case atStart=>exact⟨0,λ_=>xC,rfl,oM,rfl,λ_ _ _=>rfl,T⟩
 case round=>
  clear T;obtain⟨k,U,F,hk,rfl,hv,h⟩:=hrel;refine bm F hv λHG N=>?_;clear F hv;by_cases B:k<4
  ·have R0:=Rd.PH ⟨X,false⟩ k k (g9 _)
   have hN:=Rp ⟨X,false⟩ k;have M:=Jo ⟨X,false⟩ k;have hR:(Rd.gz ⟨X,false⟩ (k+1)).2=(Rd.gz ⟨X,false⟩ k).2.h5.2:=rfl;have OK:=D1.out k;have H:=aa h;clear h;generalize K0:lI (Rd.gz ⟨X,false⟩ k).1 k=ok at*;generalize(Rd.gz ⟨X,false⟩ k).2=r at*;generalize(Rd.gz ⟨X,false⟩ k).1=m at*;generalize l:Rd.gz ⟨X,false⟩ (k+1)=z at*;have HZ:=aa l;clear l;refine xH R0 hN M hR OK (show r.h1.2.Ok from OK.num 8) λA1 HN HS HR J0 F0=>?_;have O0:Hid (r.h2.2.Ok):=(OK.num 8).num 4;have D0:Hid (r.h3.2.Ok):=O0.ah 4;have C1:Hid (r.h4.2.Ok):=D0.num 1;have b2:0<=r.h2.1/\r.h2.1<4294967296:=Rd.lC F0;have b4:0<=r.h4.1/\r.h4.1<256:=Rd.mO D0;obtain⟨G1,I1⟩:=b2;have u2:IntKind.u32.wrap r.h2.1=r.h2.1:=IntWalk.u32_in _ oM;obtain⟨C,V0⟩:=zY b4.1;have J1:C<256:=oM
   have G0:=aa V0;clear R0 hN M hR OK b4 V0 K0;have k0:(0:Int)<=(k:Int):=oM
   have k4:(k:Int)<4:=oM
   go_wp2_with fail
   refine GQ (λW=>W.cell? (aD s 0)=some (pO y)) 10 9 [0,1,2,4] #[true,true,true,false,true,false,false,false,false,false,false,false,false] kR kR
    (λd=>by cases d<;>exact λ_ _ _ _ h=>h) (λW J=> ?_)
   have H0:=aa (show St I W (ab s 253 #[pO y]::ab (s+1+1) 4 #[.bool (ok)]::po y r::im (s+1) U m::dx U m::L)by
    rw[J];exact H.drew)
   clear J H;refine⟨(H0.ah 0 rfl).cell 0,?_⟩
   iterate 4 (refine bN rfl rfl (λW J=>gS) ?_;simp only[aR])
   refine take_nil ?_;refine LP 3 kR (BM (f:=136) (args:= #[pO y,iI 8]) rfl rfl (by go_simp) ((bM y r 8 _ J0.hb J0.hl J0.hz H0.tX).mono ?_));rintro e w2⟨rfl,h⟩;have I0:Hid (St I w2 (ab s 253 #[pO y]::ab (s+1+1) 4 #[.bool (ok)]::po y r.h1.2::im (s+1) U m::dx U m::L)):=h.sh;refine⟨_,rfl,λ_=>(I0.ah 0 rfl).cell 0,?_⟩;clear H0 h;simp only[aR];refine LP 5 kR (BM (f:=136) (args:= #[pO y,iI 4]) rfl rfl (by go_simp) ((bM y r.h1.2 4 _ F0.hb F0.hl F0.hz I0.tX).mono ?_));rintro e w3⟨rfl,h⟩;have B0:Hid (St I w3 (ab s 253 #[pO y]::ab (s+1+1) 4 #[.bool (ok)]::po y r.h2.2::im (s+1) U m::dx U m::L)):=h.sh;refine⟨_,rfl,λ_=>(B0.ah 0 rfl).cell 0,?_⟩;clear I0 h;rw[show(r.num 8).1=r.h1.1 from rfl,show(r.h1.2.num 4).1=r.h2.1 from rfl];simp only[aR];refine TU (n:=6) [6] #[true,true,true,true,true,true,true,false,false,false,false,false,false] kR kR (λd=>by cases d<;>exact λ_ _ _ _ h=>h) ((B0.ah 0 rfl).cell 0) kR ?_;refine bN (v:= iW r.h2.1) rfl rfl (λW J=>by(go_simp;try exact congrArg (λz=>Result.ok (Next.value (iW z)) W) u2)) ?_;simp only[aR];refine take_nil ?_;refine sj [7,8,9,10,11,12] _ _ _ kR ?_
   iterate 2 (refine bD rfl rfl gS (λ_=>(B0.ah 0 rfl).cell 0) ?_;simp only[aR])
   have S:=(B0.pk 5 [3,4,0,1,2]);obtain⟨⟨u,D⟩,P⟩:=j6 (S.ah 0 rfl) B (j:=0) oM;have Q:=(S.tX.sh.swap.swap.bG (R:=λ_=>True) (λ_ _=>trivial)).sh.CL B (j:=0) oM (x:={m k with aE:=r.h1.1}) (p:=U k) (u:= iU r.h1.1) rfl (λO G _=>⟨G.b,G.log⟩);simp only[vt]at D P Q;refine dp rfl rfl 31 _ _ (.pointer (some ⟨s+1,k*7,none⟩)) (iU r.h1.1) rfl rfl rfl (by go_simp) (λ_=>(Q.ah 2 rfl).cell 0) ?_;simp only[Act.put];clear D P
   iterate 2 (refine bD rfl rfl gS nD ?_;simp only[aR])
   obtain⟨⟨u,D⟩,P⟩:=j6 (Q.ah 0 rfl) B (j:=1) oM;have g:=(Q.bG (R:=λ_=>True) (λ_ _=>trivial)).sh.CL B (j:=1) oM (x:={m k with aE:=r.h1.1,seq:=r.h2.1}) (p:=U k) (u:= iW r.h2.1) (by rw[aW,aW];rfl) (λO G _=>by rw[aW,aW]at G;exact⟨G.b,G.log⟩);refine dp rfl rfl 60 _ _ (.pointer (some ⟨s+1,k*7+1,none⟩)) (iW r.h2.1) rfl rfl rfl gS nD ?_;clear D P;rw[od,od,ud,A1.out]at g;have H5:Hid (St I _ (ab s 253 #[pO y]::ab (s+1+1) 4 #[.bool (ok)]::po y r.h2.2::im (s+1) U (aJ m k ⟨r.h1.1,r.h2.1,λ_=>[],[]⟩)::dx U (aJ m k ⟨r.h1.1,r.h2.1,λ_=>[],[]⟩)::L)):=g.pick 5 [2,3,4,0,1];clear S Q g B0;simp only[Act.put];refine cN ?_;generalize World.setCell _ _ _=w5 at H5⊢;have N0:=aa (show∀i,k<=i->i<4->(U i).log= sN from N);clear N
   go_wp2_with fail
   go_loopg [36] 4 (λgh i wq=>∃(j:Nat) (U:Nat->RV),gh=4-j/\j<=4/\i= iI (j:Nat)/\(∀i,k<=i->i<4->(U i).log= sN)/\St I wq (ab s 253 #[pO y]::ab (s+1+1) 4 #[.bool (ok&&mj (r.h2.2.ah j).1 j)]::po y (r.h2.2.ah j).2::im (s+1) U (aJ m k ⟨r.h1.1,r.h2.1,(r.h2.2.ah j).1,[]⟩)::dx U (aJ m k ⟨r.h1.1,r.h2.1,(r.h2.2.ah j).1,[]⟩)::L))
   case atStart=>exact⟨0,U,rfl,oM,rfl,N0,by rw[show(ok&&mj (r.h2.2.ah 0).1 0)=ok from zdy ok];exact H5.out⟩
   case round=>
    clear H5 N0;obtain⟨j,U,F,hj,rfl,hv,h⟩:=hrel;refine bm F hv λHJ N=>?_;clear F hv;by_cases P0:j<4
    ·have j0:(0:Int)<=(j:Int):=oM
     have j4:(j:Int)<4:=oM
     have H:=aa h;clear h
     go_wp2_with fail
     refine bQ (λ_=>True) 8 [0,1,2,4,5] [3,6,7] kR kR (λd=>by cases d<;>exact λ_ _ _ _ h=>h) (λW J=> ?_);have M:=aa (show St I W (ab s 253 #[pO y]::ab (s+1+1) 4 #[.bool (ok&&mj (r.h2.2.ah j).1 j)]::po y (r.h2.2.ah j).2::im (s+1) U (aJ m k ⟨r.h1.1,r.h2.1,(r.h2.2.ah j).1,[]⟩)::dx U (aJ m k ⟨r.h1.1,r.h2.1,(r.h2.2.ah j).1,[]⟩)::L)by
      rw[J];exact H.drew)
     clear J H;refine⟨trivial,?_⟩
     iterate 5 (refine bN rfl rfl (λW J=>by(clear J;go_simp;try rfl)) ?_;simp only[aR])
     refine take_nil ?_;refine eP (f:=134) (args:= #[pO s,.pointer (some ⟨s+1+1,0,none⟩)]) rfl rfl gS ((RP s (s+1+1) y _ _ _ (O0.ah j) M.out).mono ?_);rintro e w2⟨v2,rfl,h⟩;obtain⟨t,o,rfl,_,_,_⟩:=h.get 0 rfl;refine⟨_,rfl,λ_=>trivial,?_⟩;simp only[aR];have E0:(ok&&mj (r.h2.2.ah j).1 j&&fI (r.h2.2.ah j).2.gE.1)=(ok&&mj (r.h2.2.ah (j+1)).1 (j+1)):=by
      rw[zc1];exact congrArg _ (Kc (r.h2.2.ah j).1 j (r.h2.2.ah j).2.gE.1).symm
     rw[E0]at h;have V:=h.pk 6 [4,5,0,1,2,3];obtain⟨⟨u,D⟩,P⟩:=j6 (V.ah 0 rfl) B (j:=2+j) oM;have Q:=V.CL B (j:=2+j) oM (x:=⟨r.h1.1,r.h2.1,(r.h2.2.ah (j+1)).1,[]⟩) (p:={U k with b:=aJ (U k).b j (.slice t (r.h2.2.ah j).2.gE.1.length o)}) (u:= .slice t (r.h2.2.ah j).2.gE.1.length o) (by rw[aW];rcases vQ P0 with rfl|rfl|rfl|rfl<;>rfl)
      (λO G hi=>by
       rw[aW]at G;refine⟨λi F1=> ?_,G.log⟩;by_cases Y:i=j
       ·subst Y
        show aA O .u8 (aJ (U k).b i _ i) (aJ (r.h2.2.ah i).1 i _ i);rw[aW,aW];exact hi
       ·show aA O .u8 (aJ (U k).b j _ i) (aJ (r.h2.2.ah j).1 j _ i)
        rw[cm _ _ _ _ Y,cm _ _ _ _ Y];exact G.b i F1)
     rw[<-zc6]at D P Q;rw[od]at Q;have H4:=aa (Q.pk 5 [2,3,4,0,1]);clear h V Q M E0;refine bD rfl rfl gS (λ_=>trivial) ?_;simp only[aR];refine dp rfl rfl 27 _ _ (.pointer (some ⟨s+1,k*7+2+j,none⟩)) (.slice t (r.h2.2.ah j).2.gE.1.length o) rfl rfl rfl gS (λ_=>trivial) ?_;simp only[Act.put];refine cN ?_;clear D P
     go_wp2_with fail
     go_roundg (4-(j+1))
     case measure=>have:=HJ.out;omega
     case rel=>exact⟨j+1,_,rfl,oM,by go_num,λi Z V=>(by
      by_cases Y:i=k
      ·subst Y
       rw[aW];exact N _ Z V
      ·rw[cm _ _ _ _ Y]
       exact N _ Z V),H4⟩
    ·obtain rfl:j=4:=oM
     have Z:=(show St I wr (ab s 253 #[pO y]::ab (s+1+1) 4 #[.bool (ok&&mj r.h3.1 4)]::po y r.h3.2::im (s+1) U (aJ m k ⟨r.h1.1,r.h2.1,r.h3.1,[]⟩)::dx U (aJ m k ⟨r.h1.1,r.h2.1,r.h3.1,[]⟩)::L)from h);have hl:(aJ m k ⟨r.h1.1,r.h2.1,r.h3.1,[]⟩) k=⟨r.h1.1,r.h2.1,r.h3.1,[]⟩:=aW _ _ _;have Q0:=N.out k (g9 _) B;generalize S0:(ok&&mj r.h3.1 4)=ok2 at*;refine mr S0 Z hl Q0 λB1 H1 HL Z0=>?_;have x0:=(Z.ah 0 rfl).cell 0;clear h Z S0 hl Q0 HJ
     go_wp2_with fail
     refine qK (bM y r.h3.2 1 _ D0.hb D0.hl D0.hz H1.tX) λw6 h=>?_;have H6:=aa (((show St I w6 (ab s 253 #[pO y]::ab (s+1+1) 4 #[.bool (ok2)]::po y r.h4.2::im (s+1) U (aJ m k ⟨r.h1.1,r.h2.1,r.h3.1,[]⟩)::dx U (aJ m k ⟨r.h1.1,r.h2.1,r.h3.1,[]⟩)::L)from h.sh).dU 27 1 dP).pk 6 [1,2,3,4,5,0]);clear H1 h;clear x0;rw[show(r.h3.2.num 1).1=r.h4.1 from rfl,G0.out]
     go_wp2_with fail
     go_loopg [49] C (λgh i wq=>∃(j:Nat) (A:OA) (q c:Nat),gh=C-j/\j<=C/\i= iU (j:Nat)/\q=j/\St I wq (ab s 253 #[pO y]::ab (s+1+1) 4 #[.bool (ok2&&(r.h4.2.dv j).1.all fI)]::po y (r.h4.2.dv j).2::ab (s+1) 90 ((nj (aJ m k ⟨r.h1.1,r.h2.1,r.h3.1,[]⟩) U).setIfInBounds (k*7+6) (.slice A q c))::dx U (aJ m k ⟨r.h1.1,r.h2.1,r.h3.1,[]⟩)::ay 27 1 dP (.slice A q c) (r.h4.2.dv j).1::L))
     case atStart=>exact⟨0,none,0,0,rfl,oM,rfl,rfl,by rw[Mm _ _ B Z0.out,show(ok2&&(r.h4.2.dv 0).1.all fI)=ok2 from zdy ok2];exact H6.out⟩
     case round=>
      clear H6;obtain⟨j,A,q,c,F,hj,rfl,W0,h⟩:=hrel;refine bm F W0 λHJ M0=>?_;have ql:q<=256:=oM
      clear F W0;by_cases P0:j<C
      ·have j0:(0:Int)<=(j:Int):=oM
       have j4:(j:Int)<(C:Int):=oM
       have H:=aa h;clear h
       go_wp2_with fail
       refine bQ (λW=>W.cell? ⟨s+1,k*7+6,none⟩=some (.slice A q c)) 9 (rG 6) [6,7,8,9,10,11] kR kR (λd=>by cases d<;>exact λ_ _ _ _ h=>h) (λW J=> ?_);have M:=aa (show St I W (ab s 253 #[pO y]::ab (s+1+1) 4 #[.bool (ok2&&(r.h4.2.dv j).1.all fI)]::po y (r.h4.2.dv j).2::ab (s+1) 90 ((nj (aJ m k ⟨r.h1.1,r.h2.1,r.h3.1,[]⟩) U).setIfInBounds (k*7+6) (.slice A q c))::dx U (aJ m k ⟨r.h1.1,r.h2.1,r.h3.1,[]⟩)::ay 27 1 dP (.slice A q c) (r.h4.2.dv j).1::L)by
        rw[J];exact H.drew)
       clear J H;refine⟨((M.out.ah 3 rfl).cell _).trans (ma _ U B _),?_⟩
       iterate 6 (refine bN rfl rfl (λW J=>gS) ?_;simp only[aR])
       refine take_nil ?_;refine eP (f:=134) (args:= #[pO s,.pointer (some ⟨s+1+1,0,none⟩)]) rfl rfl gS ((RP s (s+1+1) y _ _ _ (C1.dv j) M.out).mono ?_);rintro e w2⟨v2,rfl,h⟩;obtain⟨t,o,rfl,_,_,_⟩:=h.get 0 rfl;have E0:(ok2&&(r.h4.2.dv j).1.all fI&&fI (r.h4.2.dv j).2.gE.1)=(ok2&&(r.h4.2.dv (j+1)).1.all fI):=by
        rw[zc1];exact congrArg _ (Kw (r.h4.2.dv j).1 (r.h4.2.dv j).2.gE.1).symm
       rw[E0]at h;have S:=(h.pk 7 [6,0,1,2,3,4,5]).nP (.cells #[.slice t (r.h4.2.dv j).2.gE.1.length o] 27);have T:=aa h.tail;refine⟨_,rfl,λ_=>((T.ah 3 rfl).cell _).trans (ma _ U B _),?_⟩;clear h M E0;simp only[aR];refine bX rfl rfl 85 1 0 _ (.slice t (r.h4.2.dv j).2.gE.1.length o) rfl rfl (vO _ _ _ _) (λ_=>((S.ah 5 rfl).cell _).trans (ma _ U B _)) ?_;simp only[aR];obtain⟨xs,hq,X0,l⟩:=S.bK;refine qe py l rfl rfl _ _ rfl rfl (aO w2.heap.size) 1 1 rfl [.slice t (r.h4.2.dv j).2.gE.1.length o] (uv _ _ _) ac8 oM oM (λA4 c4 w4 Q=>⟨λ_=>((Q.ah 6 rfl).cell _).trans (ma _ U B _),?_⟩);simp only[aR];have g:=((Q.tX.bu (R':=λO=>dP O [.slice t (r.h4.2.dv j).2.gE.1.length o] (r.h4.2.dv j).2.gE.1) (λO hi=>⟨_,rfl,hi⟩)).sh).fR hq rfl X0;clear hq X0;have h6:=g.pk 6 [4,5,0,1,2,3];have D:=((h6.ah 0 rfl).cell (k*7+6)).trans (ma _ U B _);have P:=(h6.ah 0 rfl).frozen (k*7+6);have h7:=h6.bI (k*7+6) (.slice A4 (q+1) c4);rw[Array.setIfInBounds_setIfInBounds]at h7;have H7:=aa (h7.pk 6 [3,4,5,0,1,2]);clear T S l Q g h6 h7
       iterate 2 (refine bD rfl rfl gS nD ?_;simp only[aR])
       refine dp rfl rfl 85 _ _ (.pointer (some ⟨s+1,k*7+6,none⟩)) (.slice A4 (q+1) c4) rfl rfl rfl gS nD ?_;simp only[Act.put];refine cN ?_;clear D P
       go_wp2_with fail
       go_roundg (C-(j+1))
       case measure=>have:=HJ.out;omega
       case rel=>exact⟨j+1,A4,q+1,c4,rfl,oM,by go_num,by have:=M0.out;omega,H7⟩
      ·obtain rfl:j=C:=oM
       have Z:=h;rw[show j=r.h4.1.toNat by rw[G0.out];rfl]at Z;obtain⟨p,U0,V⟩:=(St.pick (L':=ab (s+1) 90 ((nj (aJ m k ⟨r.h1.1,r.h2.1,r.h3.1,[]⟩) U).setIfInBounds (k*7+6) (.slice A q c))::dx U (aJ m k ⟨r.h1.1,r.h2.1,r.h3.1,[]⟩)::ay 27 1 dP (.slice A q c) (r.h4.2.dv r.h4.1.toNat).1::ab s 253 #[pO y]::ab (s+1+1) 4 #[.bool (ok2&&(r.h4.2.dv r.h4.1.toNat).1.all fI)]::po y (r.h4.2.dv r.h4.1.toNat).2::L) Z 6 [3,4,5,0,1,2]).WZ B (x:=r.rg) (by rw[HL.out];rfl);rw[od]at V;have hn:=(Rd.ol r.h4.2 r.h4.1.toNat);have hq:q=r.h5.1.length:=by rw[M0.out];refine Eq.trans ?_ hn.symm;rw[G0.out];rfl
       generalize T0:(ok2&&(r.h4.2.dv r.h4.1.toNat).1.all fI)=ok3 at V;have hF:=HN.out ok3 (by rw[<-T0,<-B1.out];rfl);have HF:=aa hF;have C0:Hid (∀i,k+1<=i->i<4->(aJ U k p i).log= sN):=aa (λi Z V=>by rw[cm _ _ _ _ oM];exact N i oM V);have key:∀b:Bool,lI z.1 (k+1)=b->St I (wr.setCell ⟨s+1+1,0,none⟩ (.bool b)) (ab s 253 #[pO y]::ab (s+1+1) 4 #[.bool (lI z.1 (k+1))]::po y z.2::im (s+1) (aJ U k p) z.1::dx (aJ U k p) z.1::L):=λb hb=>by
        rw[hb,HS.out,HR.out];exact((V.pk 5 [3,2,4,0,1]).bI 0 (.bool b)).pick 5 [1,0,2,3,4]
       have x0:=dG (V.ah 0 rfl) B (j:=0) (u:= iU r.h1.1) oM (by rw[aW,aW];rfl);have x1:=dG (V.ah 0 rfl) B (j:=1) (u:= iW r.h2.1) oM (by rw[aW,aW];rfl);have x6:=dG (V.ah 0 rfl) B (j:=6) (u:= .slice A q c) oM (by rw[aW,aW,<-U0];rfl);simp only[vt]at x0;have y0:=(V.ah 3 rfl).cell 0;have f0:=(V.ah 3 rfl).frozen 0;have L0:=aa hq;clear h Z V U0 hq hn T0 hF
       cases ok3 with
       |false=>
        have K:=aa (key false (by rw[HF.out];rfl));clear key
        exact adU
       |true=>
        by_cases A0:q<=4
        ·have d1:decide ((q:Int)<=4)=true:=decide_eq_true (by omega)
         have a:decide (r.h5.1.length<=4)=true:=dZ (by rw[<-L0.out];exact A0);by_cases hp:0<r.h1.1
         ·have d2:decide (0<r.h1.1)=true:=dZ hp
          have K:=aa (key true (by rw[HF.out,a,d2];rfl));clear key a A0 hp
          exact adU
         ·have d2:decide (0<r.h1.1)=false:=dQ hp
          by_cases l:r.h2.1=0
          ·have d3:(r.h2.1==0)=true:=Ec l
           have K:=aa (key true (by rw[HF.out,a,d2,d3];rfl));clear key a A0 hp l
           exact adU
          ·have d3:(r.h2.1==0)=false:=kO l
           have K:=aa (key false (by rw[HF.out,a,d2,d3];rfl));clear key a A0 hp l
           exact adU
        ·have d1:decide ((q:Int)<=4)=false:=decide_eq_false (by omega)
         have a:decide (r.h5.1.length<=4)=false:=dQ (by rw[<-L0.out];exact A0);have K:=aa (key false (by rw[HF.out,a];rfl));clear key a A0
         exact adU
  ·obtain rfl:k=4:=oM
   have E:=aa (show uZ X=if(Rd.gz ⟨X,false⟩ 4).2.kx≠0 then(Rd.gz ⟨X,false⟩ 4).2.kx else if lI (Rd.gz ⟨X,false⟩ 4).1 4=true then 0 else 1 from rfl);generalize K0:lI (Rd.gz ⟨X,false⟩ 4).1 4=ok at*;have x0:=(h.ah 0 rfl).cell 0;have H:=aa h;clear h N K0
   go_wp2_with fail
   refine qK (qP y _ _ H.tX) λw2 h=>?_;have V:=h.sh;have y0:=(V.ah 1 rfl).cell 0;have T:=aa V;clear h V H x0;generalize(Rd.gz ⟨X,false⟩ 4).2.kx=ee at*;have HP:=aa (T.pk 5 [3,4]);clear T;by_cases Y:ee=0
   ·subst Y
    rw[iN dC]at E
    cases ok with
    |true=>
     have E1:Hid (uZ X=0):=E
     go_wp2_with fail
     go_ret2
     exact⟨some ⟨s+1,0,none⟩,by rw[E1.out];try rfl,λ_=>⟨s+1,rfl,HP.kU⟩,λh=>absurd E1 h,HP.tail.tail⟩
    |false=>
     have E1:Hid (uZ X=1):=E
     go_wp2_with fail
     go_ret2
     exact⟨none,by rw[E1.out];try rfl,λh=>absurd (E1.symm.trans h) dC,λ_=>rfl,HP.tail.tail⟩
   ·rw[iP Y]at E
    have d1:(ee==0)=false:=kO Y;have d2:(ee !=0)=true:=by simp[Y]
    have HE:=aa Y;clear Y
    go_wp2_with fail
    go_ret2
    exact⟨none,by rw[E.out];try rfl,λh=>absurd (E.symm.trans h) HE,λ_=>rfl,HP.tail.tail⟩
section
open Go.Shelf
variable {cx:CX}
def keyOf(x:PU):Int×Int:=(x.region,x.index)
end
section
theorem sE(r i:Int)(x:PU):cC r i x=true↔keyOf x=(r,i):=by
 unfold cC keyOf;rw[mq,beq_iff_eq,beq_iff_eq,Prod.mk.injEq]
theorem Db(ws:List PU)(r i:Int):ws.any (cC r i)=true↔∃y∈ws,keyOf y=(r,i):=by
 rw[zdm];exact⟨λ⟨y,h,k⟩=>⟨y,h,(sE r i y).1 k⟩,λ⟨y,h,k⟩=>⟨y,h,(sE r i y).2 k⟩⟩
theorem Af{X:Type}{l:List X}{k:Nat}{x:X}(h:l[k]? =some x):l=l.take k++x::l.drop (k+1):=by
 obtain⟨F,rfl⟩:=lQ.1 h;rw[<-Eb F,IY]
theorem Sh{L:Type}(f:L->PU->Bool×L)(l:List PU):∀s,(eI f s l).Sublist l:=by
 induction l with
 |nil=>exact λ_=>KL _
 |cons x r K=>
  intro s;unfold eI
  split
  ·exact(K _).cons _
  ·exact(K _).cons_cons _
theorem mem_erase{bl:List PU}{k:Nat}{p y:PU}(h:y∈bl.eraseIdx k++[p]):y∈bl\/y=p:=by
 rcases lU.1 h with h|h
 ·exact .inl (Xj h)
 ·exact .inr acX
theorem Eh{bl:List PU}{k:Nat}{x p y:PU}(J:bl[k]? =some x)(h:y∈bl)(F:keyOf y≠keyOf x):y∈bl.eraseIdx k++[p]:=by
 rw[Af J]at h;rw[VD];rcases lU.1 h with h|h
 ·simp[h]
 ·rcases nO.1 h with rfl|h
  ·exact absurd rfl F
  ·simp[h]
theorem Bg{bl:List PU}{k:Nat}{x:PU}(J:bl[k]? =some x)(p:PU):(bl.eraseIdx k++[p]).length=bl.length:=by
 have:=(lQ.1 J).1;rw[eG,zcq,iP this];exact acC
theorem JX{bl:List PU}{k:Nat}{x:PU}(_hx:bl[k]? =some x)(p:PU):(bl.eraseIdx k++[p]).map keyOf=(bl.take k).map keyOf++(bl.drop (k+1)).map keyOf++[keyOf p]:=by
 rw[VD,xd,xd]
 rfl
structure io(n:Nat)(bl ws:List PU):Prop where
 len:bl.length<=6
 nd:(bl.map keyOf).Nodup
 wl:ws.length<=n
 wd:∀x∈ws,x.data.length<=23
 bd:∀x∈bl,x.data.length<=140737488355328
 on:∀x∈ws,∃y∈bl,keyOf y=keyOf x
theorem io.init:io 0 [] []:=⟨by simp,by simp,by simp,λ_ h=>by simp at h,λ_ h=>by simp at h,λ_ h=>by simp at h⟩
section
variable {n m:Nat} {bl ws c:List PU} {k:Nat} {x p:PU}
theorem io.le(h:io n bl ws)(y:n<=m):io m bl ws:=⟨h.len,h.nd,by have:=h.wl;omega,h.wd,h.bd,h.on⟩
theorem io.less(h:io n bl ws)(U:c.Sublist ws):io n bl c:=
 ⟨h.len,h.nd,by have:=h.wl;have:=U.length_le;omega,λx J=>h.wd x (U.subset J),h.bd,λx J=>h.on x (U.subset J)⟩
theorem io.over(h:io n bl ws)(J:bl[k]? =some x)(F:keyOf x=keyOf p)(o:p.data.length<=140737488355328):io n (bl.eraseIdx k++[p]) ws:=by
 refine⟨by rw[Bg J];exact h.len,?_,h.wl,h.wd,λy E=>(mem_erase E).elim (h.bd y) (λe=>e▸o),λy E=> ?_⟩
 ·rw[JX J]
  have Z:=h.nd;rw[Af J,xd,li,F]at Z;refine(List.Perm.nodup_iff ?_).1 Z;rw[nX];exact(zc7 _ _).symm.append_left _
 ·obtain⟨z,G,e⟩:=h.on y E
  by_cases a:keyOf z=keyOf x
  ·exact⟨p,by simp,by rw[<-F,<-a,e]⟩
  ·exact⟨z,Eh J G a,e⟩
theorem io.YO(h:io n bl ws)(J:bl[k]? =some x)(D:∀y∈ws,keyOf y≠keyOf x)(F:∀y∈bl,keyOf y≠keyOf p)(o:p.data.length<=140737488355328):io n (bl.eraseIdx k++[p]) ws:=by
 refine⟨by rw[Bg J];exact h.len,?_,h.wl,h.wd,λy E=>(mem_erase E).elim (h.bd y) (λe=>e▸o),λy E=> ?_⟩
 ·rw[xd,Wo]
  refine⟨h.nd.sublist ((List.eraseIdx_sublist bl k).map keyOf),by simp,λa Q b B e=> ?_⟩;obtain⟨y,E,rfl⟩:=oK.1 Q;obtain rfl:b=keyOf p:=by simpa using B
  exact F y (Xj E) e
 ·obtain⟨z,G,e⟩:=h.on y E
  exact⟨z,Eh J G (λP=>D y E (e.symm.trans P)),e⟩
theorem io.more(h:io n bl ws)(C:bl.length<6)(F:∀y∈bl,keyOf y≠keyOf p)(o:p.data.length<=140737488355328):io n (bl++[p]) ws:=by
 refine⟨by simp;omega,?_,h.wl,h.wd,λy E=> ?_,λy E=> ?_⟩
 ·rw[xd,Wo]
  refine⟨h.nd,by simp,λa Q b B e=> ?_⟩;obtain⟨y,E,rfl⟩:=oK.1 Q;obtain rfl:b=keyOf p:=by simpa using B
  exact F y E e
 ·rcases lU.1 E with E|E
  ·exact h.bd y E
  ·obtain rfl:y=p:=by simpa using E
   exact o
 ·obtain⟨z,G,e⟩:=h.on y E
  exact⟨z,Wd _ G,e⟩
end
theorem sc(bl ws:List PU)(p:PU):
 (lh bl ws p.region p.index=0/\∃k x,bl[k]? =some x/\keyOf x=keyOf p/\mz bl ws p=bl.eraseIdx k++[p])\/
 ((
  ∀y∈bl,keyOf y≠keyOf p)/\
  (
   (lh bl ws p.region p.index=0/\bl.length<6/\mz bl ws p=bl++[p])\/
   (lh bl ws p.region p.index=0/\6<=bl.length/\∃k x,bl[k]? =some x/\(∀y∈ws,keyOf y≠keyOf x)/\mz bl ws p=bl.eraseIdx k++[p])\/
   (lh bl ws p.region p.index=42/\6<=bl.length/\mz bl ws p=bl))):=by
 rcases jU (cC p.region p.index) bl 0 with⟨Z,V⟩|⟨k,x,Z,V,M⟩
 ·right
  refine⟨λy E e=> ?_,?_⟩
  ·have:=(Db bl p.region p.index).2 ⟨y,E,e⟩
   rw[V]at this
   cases this
  ·unfold lh mz
   rw[Z];simp only[iN (show¬(0:Int)<=-1 by omega)];by_cases P:6<=bl.length
   ·right
    simp only[iP P];rcases jU (qZ ws) bl 0 with⟨t,A⟩|⟨k,x,t,A,L⟩
    ·right
     simp only[t,iP (show(-1:Int)<0 by omega)];exact⟨trivial,P,trivial⟩
    ·left
     rw[s7]at t;simp only[t,iN (show¬(k:Int)<0 by omega),qG];refine⟨trivial,P,k,x,A,λy E e=> ?_,rfl⟩;unfold qZ at L;rw[zcH,<-Bool.not_eq_true]at L;exact L ((Db ws x.region x.index).2 ⟨y,E,e⟩)
   ·left
    simp only[iN P];exact⟨trivial,oM,trivial⟩
 ·left
  rw[s7]at Z;unfold lh mz;rw[Z];simp only[iP (show(0:Int)<=(k:Int)by omega),qG];exact⟨trivial,k,x,V,(sE _ _ x).1 M,rfl⟩
section
variable {n:Nat} {bl ws:List PU} {p:PU} {r i:Int}
theorem io.lay(h:io n bl ws)(o:p.data.length<=140737488355328):io n (mz bl ws p) ws:=by
 rcases sc bl ws p with⟨_,k,x,Z,V,M⟩|⟨K,⟨_,Z,V⟩|⟨_,_,k,x,Z,V,M⟩|⟨_,_,Z⟩⟩
 ·rw[M];exact h.over Z V o
 ·rw[V];exact h.more Z K o
 ·rw[M];exact h.YO Z V K o
 ·rw[Z];exact h
theorem Yd(Y:lh bl ws p.region p.index=0):p∈mz bl ws p:=by
 rcases sc bl ws p with⟨_,k,x,Z,V,M⟩|⟨K,⟨_,Z,V⟩|⟨_,_,k,x,Z,V,M⟩|⟨e,_,Z⟩⟩
 ·rw[M];exact acy
 ·rw[V];exact acy
 ·rw[M];exact acy
 ·rw[e]at Y;cases Y
theorem io.fill(h:io n bl ws)(o:p.data.length<=140737488355328):io n (oX bl ws p) ws:=by
 unfold oX
 split
 ·exact h
 ·exact h.lay o
theorem io.read(h:io n bl ws):io n (l8 bl r i) ws:=by
 rcases jU (cC r i) bl 0 with⟨Z,V⟩|⟨k,x,Z,V,M⟩
 ·unfold l8
  rw[Z,iN oM];exact h
 ·rw[s7]at Z
  unfold l8;rw[Z,iP oM,qG,V];exact h.over V rfl (h.bd x (pJ V))
theorem yL(Y:Dy bl ws p=0):Qs ws p.region p.data=0/\lh bl ws p.region p.index=0/\p.data.length<=23:=by
 unfold Dy at Y
 split at Y
 ·rename_i h
  refine⟨h,Y,?_⟩;unfold Qs at h
  split at h
  ·cases h
  ·omega
 ·rename_i h
  exact absurd Y h
theorem KN(h:Dy bl ws p≠0):AL bl ws p=ws:=iN h
theorem io.write(h:io n bl ws):io (n+1) (za bl ws p) (AL bl ws p):=by
 by_cases u:Qs ws p.region p.data=0
 ·have q:p.data.length<=23:=by
   unfold Qs at u
   split at u
   ·cases u
   ·omega
  have Z:io n (za bl ws p) ws:=by
   unfold za;rw[iP u];exact h.lay oM
  by_cases Y:Dy bl ws p=0
  ·have C:=(yL Y).2.1
   unfold AL;rw[iP Y];refine⟨Z.len,Z.nd,by have:=Z.wl;simp;omega,λy E=> ?_,Z.bd,λy E=> ?_⟩
   ·rcases lU.1 E with E|E
    ·exact Z.wd y E
    ·obtain rfl:y=p:=by simpa using E
     exact q
   ·rcases lU.1 E with E|E
    ·exact Z.on y E
    ·obtain rfl:y=p:=by simpa using E
     refine⟨y,?_,rfl⟩;unfold za;rw[iP u];exact Yd C
  ·rw[KN Y]
   exact Z.le oM
 ·have Y:Dy bl ws p≠0:=by
   unfold Dy;rw[iN u];exact u
  rw[KN Y];unfold za;rw[iN u];exact h.le oM
theorem LS(ws:List PU)(r m:Int):(OX ws r m).Sublist ws:=by
 unfold OX
 split
 ·exact KL _
 ·exact Sh _ _ _
theorem io.drop(h:io n bl ws):io n (bl.filter (λx=> !ao r x)) (ws.filter (λx=> !ao r x)):=by
 have Z:=h.less (zcW (p:=λx=> !ao r x) (l:=ws));refine⟨qJ (VP _ _) h.len,h.nd.sublist (zcW.map keyOf),Z.wl,Z.wd,λx J=>h.bd x (zk.1 J).1,λx J=> ?_⟩;obtain⟨Y,G⟩:=zk.1 J;obtain⟨y,E,e⟩:=h.on x Y;refine⟨y,zk.2 ⟨E,?_⟩,e⟩;have S:y.region=x.region:=congrArg Prod.fst e;simpa[ao,S]using G
end
end
end Go.Proofs.YtblpaldggenbaaaGreatDoor
