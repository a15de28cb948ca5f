/- A part. -/
import Derived.Test.YtblpaldggenbaaaGreatDoorMd
namespace Go.Proofs.YtblpaldggenbaaaGreatDoor
open Go.RowKit Go.Proofs.Tryz
set_option maxRecDepth 100000
set_option maxHeartbeats 64000000
variable{r:Rd}{A:OA}
section
def gK(x:Rg):LI:=bM x.ax 8++bM x.seq 4++bG (x.b 0)++bG (x.b 1)++bG (x.b 2)++bG (x.b 3)++bM x.log.length 1++x.log.flatMap bG
def ji(m:Nat->Rg)(k:Nat):LI:=(List.range k).flatMap λi=>gK (m i)
def bi(m:Nat->Rg):LI:=ji m 4
theorem cX(m:Nat->Rg)(k:Nat):ji m (k+1)=ji m k++gK (m k):=by simp[ji,XH]
theorem xy(l:List (LI)):(l.flatMap bG).length<=l.length*1002:=by
 induction l with
 |nil=>exact abN
 |cons b l K=>have:=iJ b;simp only[BA,dB,qR];omega
theorem FT(x:Rg)(h:x.log.length<=255):(gK x).length<=260000:=by
 have:=xy x.log;have Z:=dU x.ax 8;have G:=dU x.seq 4;have M:=dU x.log.length 1;have:=iJ (x.b 0);have:=iJ (x.b 1);have:=iJ (x.b 2);have:=iJ (x.b 3);unfold gK;simp only[dB];omega
theorem Ba(m:Nat->Rg)(h:∀k,(m k).log.length<=255)(k:Nat):(ji m k).length<=k*260000:=by
 induction k with
 |zero=>simp[ji]
 |succ k K=>have:=FT (m k) (h k);rw[cX,dB];omega
section
variable {P:Program} {ops:Array Oper} {rest:List Oper} {o:Oper} {a:Act} {Q:Exit->Act->World->Prop} {w O:World} {v:Value}
theorem rI(A:o.guard=none)(t:TypeId)(x y:Operand)(p u:Value)(q:o.op= .index t x y)(J:a.eval x=p)(E:a.eval y=u)
 (d:(Instr.index t p u).run P w= .ok v O) (h:wpList P ops Q rest (a.put o.dst v) O):wpList P ops Q (o::rest) a w:=by
 exact adR
end
theorem RF{w:World}{g:Nat}{V:Nat->RV}{m:Nat->Rg}(h:eK w g 90 (ni m V)):(Instr.loadAt 88 (pO g)).run prog w= .ok (.agg (ni m V)) w:=by
 have U:w.rangeAt g 0 (ni m V).toList:=λj u y=>by
  rw[xS,h.cell];simpa using y
 have:=run_loadAt_mid (P:=prog) w g 0 88 (ni m V).toList _ U underlying88 rfl kR;simpa using this
theorem Mg(V:Nat->RV)(m:Nat->Rg){k:Nat}(Q:k<4)(w:World):(Instr.index 88 (.agg (ni m V)) (iI (k:Nat))).run prog w= .ok (.agg #[iU (m k).ax,iW (m k).seq,(V k).b 0,(V k).b 1,(V k).b 2,(V k).b 3,(V k).log]) w:=by
 rcases vU Q with rfl|rfl|rfl|rfl<;>kernel_rfl
theorem IN(q u y V:Value)(w:World):(Instr.index 84 (.agg #[q,u,y,V]) (iI 0)).run prog w= .ok q w:=kR
theorem IF(q u y V:Value)(w:World):(Instr.index 84 (.agg #[q,u,y,V]) (iI 1)).run prog w= .ok u w:=kR
theorem Iq(q u y V:Value)(w:World):(Instr.index 84 (.agg #[q,u,y,V]) (iI 2)).run prog w= .ok y w:=kR
theorem IT(q u y V:Value)(w:World):(Instr.index 84 (.agg #[q,u,y,V]) (iI 3)).run prog w= .ok V w:=kR
theorem eK.seven{w:World}{b:Nat}{t:TypeId}{q u y V P n a:Value}(h:eK w b t #[q,u,y,V,P,n,a]):w.cell? (aD b 0)=some q/\w.cell? (aD b 1)=some u/\w.cell? (aD b 2)=some y/\w.cell? (aD b 3)=some V/\w.cell? (aD b 4)=some P/\w.cell? (aD b 5)=some n/\w.cell? (aD b 6)=some a:=
 ⟨h.cell 0,h.cell 1,h.cell 2,h.cell 3,h.cell 4,h.cell 5,h.cell 6⟩
theorem cn.at1{w:World}{n c:Nat}{K:Nat->LV}{N:List (LI)}{i:Nat}{x:LI}(h:cn w 1 dG (.slice A n c) K N)(z:N[i]? =some x):
 ∃T g,A=some T/\K i=[g]/\w.cell? (T.add i)=some g/\ay w .u8 g x:=by
 obtain⟨X,r,e,_,_,M⟩:=h;injection e with u Y P;subst u;obtain⟨T,C,_,D,⟨g,W,j⟩⟩:=M i x z;rw[W]at D;exact⟨T,g,C,W,by simpa[Addr.add]using D 0 _ rfl,j⟩
theorem DG{I:aK}{L:List az}(g:Nat)(m:Nat->Rg)(w:World)(K:∀k,(m k).ok)(h:St I w (dq g m::L)):
 Calls prog 13 #[pO g] w λe O=>∃v,e= .returned v/\St I O (ct 5 1 v (bi m).length (bv (bi m))::dq g m::L):=by
 obtain⟨V,h⟩:=h.gB;have Z:=h.mq 5 1;have h2:=(Z.alloc 83 #[sN]);have H:=aa (St.uv (xs:=[]) h2 rfl);have G0:=λO (hw:eK O g 90 (ni m V))=>RF hw;have B0:=aa (G0 _ (H.ah 1 rfl));have C0:=aa (λk=>Ba m (λi=>by have:=(K i).ll;omega) k);have o:=aa K;clear h Z h2 G0 K
 go_enter func13,ntmps13
 go_wp2_with ((with_reducible apply Db (t:=88));(focus rfl);(focus rfl);(focus rfl);(focus exact B0.out))
 clear B0
 go_loopg [14] 4 (λG i wr=>∃k:Nat,G=4-k/\k<=4/\i= iI (k:Nat)/\St I wr (AQ w.heap.size (ji m k)::iy g V m::dD V m::L))
 case atStart=>exact aeN
 case round=>
  clear H;obtain⟨k,C,hk,rfl,h⟩:=hrel;have HG:=aa C;clear C;by_cases r:k<4
  ·have c:=(h.get 2 rfl) k r
   obtain⟨a,c0,S,_,_,_⟩:=c.b 0 oM;obtain⟨M,c1,Y,_,_,_⟩:=c.b 1 oM;obtain⟨T,c2,q,_,_,_⟩:=c.b 2 oM;obtain⟨X,c3,P,_,_,_⟩:=c.b 3 oM;obtain⟨A6,c6,R,O0,Q0,_⟩:=c.log;have z:=Mg V m r;simp only[S,Y,q,P,R]at z;refine ye z S Y q P R λK0 E0 E1 E2 E3 E6=>?_;have B:Hid ((ji m k++gK (m k)).length<=4000000):=aa (by rw[<-cX];have:=C0.out (k+1);omega);unfold gK at B;have q0:=(o k).s0;have q1:=(o k).s1;have q4:=(o k).ll;have H1:=aa (h.alloc 87 #[iU (m k).ax,iW (m k).seq,.slice a ((m k).b 0).length c0,.slice M ((m k).b 1).length c1,.slice T ((m k).b 2).length c2,.slice X ((m k).b 3).length c3,.slice A6 (m k).log.length c6]).swap;clear h c S Y q P R z
   go_wp2_with ((with_reducible apply rI (t:=88));(focus rfl);(focus rfl);(focus rfl);(focus rfl);(focus exact K0 _))
   refine qK (dk w.heap.size (m k).ax 8 _ _ (by have:=B.out;simp only[dB]at this⊢;omega) H1) λw2 h=>?_;obtain⟨J,d,Q,n,A,u,y⟩:=(h.ah 1 rfl).seven;have N:=aa h;clear H1 h
   go_wp2_with fail
   refine qK (dk w.heap.size (m k).seq 4 _ _ (by have:=B.out;simp only[dB]at this⊢;omega) N) λw3 h=>?_;obtain⟨J,d,Q,n,A,u,y⟩:=(h.ah 1 rfl).seven;have H3:=aa h;clear N h
   go_wp2_with fail
   refine wp_loop_rounds 5 ?_;rw[rounds_succ]
   go_wp2_with ((with_reducible apply rI (t:=84));(focus rfl);(focus rfl);(focus rfl);(focus rfl);(focus exact IN _ _ _ _ _))
   have p:=((H3.copy 3 rfl).bC (R':=λO=>ay O .u8 (.slice a ((m k).b 0).length c0) ((m k).b 0)) (λO U=>by have:=(U k r).b 0 oM;rw[E0.out]at this;exact this)).swap;refine(tF (w.heap.size) _ ((m k).b 0) _ _ (by have:=B.out;simp only[dB]at this⊢;omega) p).mono ?_;clear p H3;rintro e w5⟨rfl,h⟩;obtain⟨J,d,Q,n,A,u,y⟩:=(h.ah 2 rfl).seven;have H4:=aa h.tO;clear h
   go_wp2_with fail
   rw[rounds_succ]
   go_wp2_with ((with_reducible apply rI (t:=84));(focus rfl);(focus rfl);(focus rfl);(focus rfl);(focus exact IF _ _ _ _ _))
   have p:=((H4.copy 3 rfl).bC (R':=λO=>ay O .u8 (.slice M ((m k).b 1).length c1) ((m k).b 1)) (λO U=>by have:=(U k r).b 1 oM;rw[E1.out]at this;exact this)).swap;refine(tF (w.heap.size) _ ((m k).b 1) _ _ (by have:=B.out;simp only[dB]at this⊢;omega) p).mono ?_;clear p H4;rintro e w6⟨rfl,h⟩;obtain⟨J,d,Q,n,A,u,y⟩:=(h.ah 2 rfl).seven;have H5:=aa h.tO;clear h
   go_wp2_with fail
   rw[rounds_succ]
   go_wp2_with ((with_reducible apply rI (t:=84));(focus rfl);(focus rfl);(focus rfl);(focus rfl);(focus exact Iq _ _ _ _ _))
   have p:=((H5.copy 3 rfl).bC (R':=λO=>ay O .u8 (.slice T ((m k).b 2).length c2) ((m k).b 2)) (λO U=>by have:=(U k r).b 2 oM;rw[E2.out]at this;exact this)).swap;refine(tF (w.heap.size) _ ((m k).b 2) _ _ (by have:=B.out;simp only[dB]at this⊢;omega) p).mono ?_;clear p H5;rintro e w7⟨rfl,h⟩;obtain⟨J,d,Q,n,A,u,y⟩:=(h.ah 2 rfl).seven;have H6:=aa h.tO;clear h
   go_wp2_with fail
   rw[rounds_succ]
   go_wp2_with ((with_reducible apply rI (t:=84));(focus rfl);(focus rfl);(focus rfl);(focus rfl);(focus exact IT _ _ _ _ _))
   have p:=((H6.copy 3 rfl).bC (R':=λO=>ay O .u8 (.slice X ((m k).b 3).length c3) ((m k).b 3)) (λO U=>by have:=(U k r).b 3 oM;rw[E3.out]at this;exact this)).swap;refine(tF (w.heap.size) _ ((m k).b 3) _ _ (by have:=B.out;simp only[dB]at this⊢;omega) p).mono ?_;clear p H6;rintro e w8⟨rfl,h⟩;obtain⟨J,d,Q,n,A,u,y⟩:=(h.ah 2 rfl).seven;have H7:=aa h.tO;clear h
   go_wp2_with fail
   rw[rounds_succ]
   go_wp2_with fail
   refine qK (dk w.heap.size ((m k).log.length:Nat) 1 _ _ (by have:=B.out;simp only[dB]at this⊢;omega) H7) λw9 h=>?_;obtain⟨J,d,Q,n,A,u,y⟩:=(h.ah 1 rfl).seven;have H8:=aa (h.pk 4 [0,2,3]);clear h H7;generalize I0:(m k).log.length=b at*;have E:=aa I0;clear I0
   go_wp2_with fail
   clear J d Q n A u y
   go_loopg [40] b (λG i wq=>∃j:Nat,G=b-j/\j<=b/\i= iI (j:Nat)/\St I wq (AQ w.heap.size (ji m k++bM (m k).ax 8++bM (m k).seq 4++bG ((m k).b 0)++bG ((m k).b 1)++bG ((m k).b 2)++bG ((m k).b 3)++bM (b:Nat) 1++((m k).log.take j).flatMap bG)::iy g V m::dD V m::L))
   case atStart=>exact⟨0,rfl,oM,rfl,by simpa using H8.out⟩
   case round=>
    clear H8;obtain⟨j,C,hj,rfl,h⟩:=hrel;have HJ:=aa C;clear C;by_cases F0:j<b
    ·have D:=g7 (l:=(m k).log) (i:=j) (by rw[E.out];exact F0)
     generalize(m k).log[j]'(by rw[E.out];exact F0)=x at D;have U:=((h.get 2 rfl) k r).log;rw[E6.out]at U;obtain⟨ad,vb,rfl,D0,P0,hI⟩:=U.at1 D;obtain⟨gw,M0,rfl,_,_,_⟩:=hI;have p:=((h.copy 2 rfl).bC (R':=λO=>ay O .u8 (.slice gw x.length M0) x) (λO U=>by
      have Z:=(U k r).log;rw[E6.out]at Z;obtain⟨_,R0,_,F,_,N0⟩:=Z.at1 D;rw[D0]at F;injection F with F;rw[F];exact N0)).swap
     refine bq D p λHX H9=>?_;have W:((m k).log.take (j+1)).flatMap bG=((m k).log.take j).flatMap bG++bG x:=by rw[sk D,Zf];simp
     have H0:(((m k).log.take (j+1)).flatMap bG).length<=300000:=by
      have:=xy ((m k).log.take (j+1));have:=List.length_take_le (j+1) (m k).log;have:=q4;have:=E.out;omega
     rw[W,dB]at H0;have L0:=aa W;have i0:(0:Int)<=(j:Int):=oM
     have i1:(j:Int)<(b:Int):=oM
     clear h U D0 p D W
     go_wp2_with fail
     refine(tF w.heap.size _ x _ _ (by have:=B.out;simp only[dB]at this⊢;omega) H9).mono ?_;clear H9 H0;rintro e S0⟨rfl,h⟩;have J0:=aa h.tO;clear h
     go_wp2_with fail
     go_roundg (b-(j+1))
     case measure=>have:=HJ.out;omega
     case rel=>exact⟨j+1,rfl,oM,by go_num,by rw[L0.out,<-pI];exact J0.out⟩
    ·obtain rfl:j=b:=oM
     rw[oJ (by rw[E.out];exact io _)]at h;have H:=aa h;clear h
     go_wp2_with fail
     go_roundg (4-(k+1))
     case measure=>exact adi
     case rel=>exact⟨k+1,rfl,oM,by go_num,by rw[cX];unfold gK;rw[E.out];simpa only[pI]using H.out⟩
  ·obtain rfl:k=4:=oM
   have H:=aa h;clear h
   go_wp2_with fail
   refine(qu w.heap.size (ji m 4) _ (by have:=C0.out 4;omega) H).mono ?_;rintro e w2⟨v,rfl,h⟩;have N:=aa (h.pk 4 [2,3,0]);clear H h
   go_wp2_with fail
   go_ret
   exact⟨v,rfl,(St.kS N).swap⟩
end
def tv:Nat->Rg:=λ_=>Rg.zero
theorem VE:∀k,(tv k).ok:=λ_=>Rg.CN
def xL:RV:=⟨λ_=> sN,sN,λ_=>[]⟩
theorem St.WO{I:aK}{w:World}{L:List az}(h:St I w L):St I (w.alloc (.cells (ni tv (λ_=>xL)) 90)) (dq w.heap.size tv::L):=
 St.kS (V:=λ_=>xL) (((h.bH (R:=λw=>∀k,k<4->AZ w xL (tv k)) (λO _ _k _=>⟨λ_ _=>ay.none_ O _,cn.none_ _ _ _ _⟩)).alloc 90 _))
def Rd.ah(r:Rd):Nat->(Nat->LI)×Rd
 |0=>(λ_=>[],r)
 |j+1=>(aI (r.ah j).1 j (r.ah j).2.gI.1,(r.ah j).2.gI.2)
def Rd.dx(r:Rd):Nat->List (LI)×Rd
 |0=>([],r)
 |n+1=>((r.dx n).1++[(r.dx n).2.gI.1],(r.dx n).2.gI.2)
def Rd.h1(r:Rd):Int×Rd:=r.num 8
def Rd.h2(r:Rd):Int×Rd:=r.h1.2.num 4
def Rd.h3(r:Rd):(Nat->LI)×Rd:=r.h2.2.ah 4
def Rd.h4(r:Rd):Int×Rd:=r.h3.2.num 1
def Rd.h5(r:Rd):List (LI)×Rd:=r.h4.2.dx r.h4.1.toNat
def Rd.rg(r:Rd):Rg:=⟨r.h1.1,r.h2.1,r.h3.1,r.h5.1⟩
def Rd.gB(r:Rd):Nat->(Nat->Rg)×Rd
 |0=>(tv,r)
 |k+1=>(aI (r.gB k).1 k (r.gB k).2.rg,(r.gB k).2.h5.2)
def fJ(b:LI):Bool:=decide (b.length<=24)
def ma(b:Nat->LI)(j:Nat):Bool:=(List.range j).all λi=>fJ (b i)
def PN(x:Rg):Bool:=ma x.b 4&&x.log.all fJ&&decide (x.log.length<=4)&&(decide (0<x.ax)||x.seq==0)
def lF(m:Nat->Rg)(k:Nat):Bool:=(List.range k).all λi=>PN (m i)
def vj(X:LI):Int:=if(Rd.gB ⟨X,false⟩ 4).2.kw≠0 then(Rd.gB ⟨X,false⟩ 4).2.kw else if lF (Rd.gB ⟨X,false⟩ 4).1 4=true then 0 else 1
theorem tr(b:Nat->LI)(j:Nat):ma b (j+1)=(ma b j&&fJ (b j)):=by simp[ma,XH]
theorem tI(m:Nat->Rg)(k:Nat):lF m (k+1)=(lF m k&&PN (m k)):=by simp[lF,XH]
theorem Rd.Ok.ah(h:r.Ok)(j:Nat):(r.ah j).2.Ok:=by
 induction j with
 |zero=>exact h
 |succ j K=>exact K.gI
theorem Rd.Ok.dx(h:r.Ok)(n:Nat):(r.dx n).2.Ok:=by
 induction n with
 |zero=>exact h
 |succ n K=>exact K.gI
theorem Rd.Ok.h5(h:r.Ok):r.h5.2.Ok:=(((h.num 8).num 4).ah 4|>.num 1).dx _
theorem Rd.Ok.gB(h:r.Ok)(k:Nat):(r.gB k).2.Ok:=by
 induction k with
 |zero=>exact h
 |succ k K=>exact K.h5
theorem Rd.og(r:Rd)(n:Nat):(r.dx n).1.length=n:=by
 induction n with
 |zero=>rfl
 |succ n K=>show((r.dx n).1++[_]).length=_;simp[K]
theorem Rd.Fe(h:r.Ok)(V:r.gI.2.s=false):r.s=false/\r.xs=bG r.gI.1++r.gI.2.xs:=by
 have p:r.Pq 9=(⟨9,0,r.gI.1⟩,r.gI.2):=iP rfl;have Z:=Rd.Pt (k:=9) h.hb rfl (by rw[p];exact V);rw[p]at Z;exact⟨Z.1,Z.2.1⟩
theorem Rd.wY(h:r.Ok)(m:Nat)(Z:1<=m)(W:m<=8)(V:(r.num (m:Int)).2.s=false):r.s=false/\r.xs=bM (r.num (m:Int)).1 m++(r.num (m:Int)).2.xs:=by
 have G:=Rd.zG h.hb Z W V;refine⟨G.1,?_⟩;have e:bM (r.num (m:Int)).1 m=aV (r.num (m:Int)).1 m:=by
  unfold bM;rw[iN oM,rE]
 rw[e];exact G.2.1
def Bj(b:Nat->LI)(j:Nat):LI:=(List.range j).flatMap λi=>bG (b i)
theorem lm(b:Nat->LI)(j:Nat):Bj b (j+1)=Bj b j++bG (b j):=by simp[Bj,XH]
theorem QS(b:Nat->LI)(j k:Nat)(x:LI)(h:j<=k):Bj (aI b k x) j=Bj b j:=by
 induction j with
 |zero=>rfl
 |succ j K=>rw[lm,lm,K oM,bS _ _ _ _ oM]
theorem Rd.QF(h:r.Ok)(j:Nat)(V:(r.ah j).2.s=false):r.s=false/\r.xs=Bj (r.ah j).1 j++(r.ah j).2.xs:=by
 induction j with
 |zero=>exact⟨V,rfl⟩
 |succ j K=>
  have Z:=Rd.Fe (h.ah j) V;have G:=K Z.1;refine⟨G.1,?_⟩;show r.xs=Bj (aI (r.ah j).1 j (r.ah j).2.gI.1) (j+1)++(r.ah j).2.gI.2.xs;rw[lm,QS _ _ _ _ (io _),aT,pI,<-Z.2];exact G.2
theorem Rd.Nh(h:r.Ok)(n:Nat)(V:(r.dx n).2.s=false):r.s=false/\r.xs=(r.dx n).1.flatMap bG++(r.dx n).2.xs:=by
 induction n with
 |zero=>exact⟨V,rfl⟩
 |succ n K=>
  have Z:=Rd.Fe (h.dx n) V;have G:=K Z.1;refine⟨G.1,?_⟩;show r.xs=((r.dx n).1++[(r.dx n).2.gI.1]).flatMap bG++(r.dx n).2.gI.2.xs;rw[Zf,pI];simp only[BA,List.flatMap_nil,xd];rw[<-Z.2];exact G.2
theorem Rd.Ta(h:r.Ok)(V:r.h5.2.s=false):r.s=false/\r.xs=gK r.rg++r.h5.2.xs:=by
 have i:r.h1.2.Ok:=h.num 8;have j:r.h2.2.Ok:=i.num 4;have d:r.h3.2.Ok:=j.ah 4;have k:r.h4.2.Ok:=d.num 1;have H:=Rd.Nh k r.h4.1.toNat V;have B:=Rd.wY d 1 oM oM H.1;have L:=Rd.QF j 4 B.1;have c:=Rd.wY i 4 oM oM L.1;have l:=Rd.wY h 8 oM oM c.1;refine⟨l.1,?_⟩;have F:((r.h5.1.length:Nat):Int)=r.h4.1:=by
  have e:r.h5.1.length=r.h4.1.toNat:=Rd.og _ _;have:=(Rd.mJ d).1;rw[e];exact Zi this
 have u:r.xs=bM r.h1.1 8++r.h1.2.xs:=l.2;have Y:r.h1.2.xs=bM r.h2.1 4++r.h2.2.xs:=c.2;have P:r.h2.2.xs=Bj r.h3.1 4++r.h3.2.xs:=L.2;have g:r.h3.2.xs=bM r.h4.1 1++r.h4.2.xs:=B.2;have b:r.h4.2.xs=r.h5.1.flatMap bG++r.h5.2.xs:=H.2;have a:Bj r.h3.1 4=bG (r.h3.1 0)++bG (r.h3.1 1)++bG (r.h3.1 2)++bG (r.h3.1 3):=by
  rw[lm,lm,lm,lm];simp[Bj]
 show r.xs=(bM r.h1.1 8++bM r.h2.1 4++bG (r.h3.1 0)++bG (r.h3.1 1)++bG (r.h3.1 2)++bG (r.h3.1 3)++bM (r.h5.1.length:Nat) 1++r.h5.1.flatMap bG)++r.h5.2.xs;rw[F,u,Y,P,g,b,a];simp only[pI]
theorem Jq(m:Nat->Rg)(k i:Nat)(x:Rg)(h:k<=i):ji (aI m i x) k=ji m k:=by
 induction k with
 |zero=>rfl
 |succ k K=>rw[cX,cX,K oM,bS _ _ _ _ oM]
theorem Rd.Qj(h:r.Ok)(k:Nat)(V:(r.gB k).2.s=false):r.s=false/\r.xs=ji (r.gB k).1 k++(r.gB k).2.xs:=by
 induction k with
 |zero=>exact⟨V,rfl⟩
 |succ k K=>
  have Z:=Rd.Ta (h.gB k) V;have G:=K Z.1;refine⟨G.1,?_⟩;show r.xs=ji (aI (r.gB k).1 k (r.gB k).2.rg) (k+1)++(r.gB k).2.h5.2.xs;rw[cX,Jq _ _ _ _ (io _),aT,pI,<-Z.2];exact G.2
theorem Rd.UD(r:Rd)(j i:Nat)(h:j<=i):(r.ah j).1 i=[]:=by
 induction j with
 |zero=>rfl
 |succ j K=>
  show aI (r.ah j).1 j _ i=[];rw[bS _ _ _ _ oM];exact K oM
theorem Rd.Tn(r:Rd)(k i:Nat)(h:k<=i):(r.gB k).1 i=Rg.zero:=by
 induction k with
 |zero=>rfl
 |succ k K=>
  show aI (r.gB k).1 k _ i=Rg.zero;rw[bS _ _ _ _ oM];exact K oM
theorem Rd.VS(h:r.Ok)(k i:Nat)(z:i<k):∃q:Rd,q.Ok/\(r.gB k).1 i=q.rg:=by
 induction k with
 |zero=>omega
 |succ k K=>
  by_cases Y:i=k
  ·subst Y
   exact⟨(r.gB i).2,h.gB i,aT _ _ _⟩
  ·obtain⟨q,Z,G⟩:=K oM
   exact⟨q,Z,(bS _ _ _ _ Y).trans G⟩
theorem YS{q:Rd}(h:q.Ok)(E:PN q.rg=true):q.rg.ok:=by
 unfold PN at E;simp only[mf,decide_eq_true_eq]at E;obtain⟨⟨⟨B,F⟩,W⟩,_⟩:=E;have a:=Rd.yt h;have I:=Rd.lB (h.num 8);refine⟨a.1,a.2,I.1,I.2,W,λl p=> ?_,λj=> ?_⟩
 ·have:=AR.1 F l p
  unfold fJ at this;simpa using this
 ·by_cases H:j<4
  ·have:=AR.1 B j (Ow.2 H)
   unfold fJ at this;simpa using this
  ·show((Rd.ah _ 4).1 j).length<=24
   rw[Rd.UD _ _ _ oM];exact abN
theorem SC{bs:LI}(h:Rd.Ok ⟨bs,false⟩)(Y:vj bs=0):bi (Rd.gB ⟨bs,false⟩ 4).1=bs/\∀k,((Rd.gB ⟨bs,false⟩ 4).1 k).ok:=by
 unfold vj at Y
 split at Y
 ·rename_i Z
  exact absurd Y Z
 ·rename_i Z
  have K:(Rd.gB ⟨bs,false⟩ 4).2.kw=0:=Ze.1 Z
  split at Y
  ·rename_i B
   have V:(Rd.gB ⟨bs,false⟩ 4).2.s=false/\(Rd.gB ⟨bs,false⟩ 4).2.xs=[]:=by
    unfold Rd.kw at K
    split at K
    ·cases K
    ·rename_i V
     split at K
     ·cases K
     ·rename_i F
      exact⟨by simpa using V,BJ oM⟩
   have C:=Rd.Qj h 4 V.1;refine⟨?_,λk=> ?_⟩
   ·have:=C.2
    rw[V.2,xd]at this;exact this.symm
   ·by_cases Q:k<4
    ·have a:=AR.1 B k (Ow.2 Q)
     obtain⟨q,d,e⟩:=Rd.VS h 4 k Q;rw[e]at a⊢;exact YS d a
    ·rw[Rd.Tn _ _ _ oM]
     exact Rg.CN
  ·cases Y
theorem Rv{I:aK}{L:List az}(b a k:Nat)(ok:Bool)(r:Rd)(w:World)(U:r.Ok)(h:St I w (ab b 253 #[pO k]::ab a 4 #[.bool ok]::pu k r::L)):
 Calls prog 134 #[pO b,pO a] w λe O=>∃v,e= .returned v/\St I O (ai .u8 v r.gI.1::ab b 253 #[pO k]::ab a 4 #[.bool (ok&&fJ r.gI.1)]::pu k r.gI.2::L):=by
 have C:=(h.ah 0 rfl).cell 0;have H:=aa h;clear h
 go_enter func134,ntmps134
 go_wp2_with fail
 refine(yY k r _ U.hb U.hl U.hz H.tW).mono ?_;rintro e R⟨v,rfl,h⟩;obtain⟨A,c,rfl,_,_,_⟩:=h.get 0 rfl;have o:=(h.ah 3 rfl).cell 0;have f0:=(h.ah 3 rfl).frozen 0;have N:=aa h;clear H h C
 cases ok with
 |true=>
  have M:St I (R.setCell ⟨a,0,none⟩ (.bool (decide ((r.gI.1.length:Int)<=24)))) (ab a 4 #[.bool (decide ((r.gI.1.length:Int)<=24))]::ai .u8 (.slice A r.gI.1.length c) r.gI.1::pu k r.gI.2::ab b 253 #[pO k]::L):=N.up3.bE 0 _;have e:(true&&fJ r.gI.1)=decide ((r.gI.1.length:Int)<=24):=by
   unfold fJ;rw[Re];exact decide_eq_decide.2 oM
  refine bq e M λE K=>?_;clear N M e
  go_wp2_with fail
  go_ret
  exact⟨_,rfl,by rw[E.out];exact K.pick 4 [1,3,0,2]⟩
 |false=>
  have M:St I (R.setCell ⟨a,0,none⟩ (.bool false)) (ab a 4 #[.bool false]::ai .u8 (.slice A r.gI.1.length c) r.gI.1::pu k r.gI.2::ab b 253 #[pO k]::L):=N.up3.bE 0 _;have K:=aa M;clear N M
  go_wp2_with fail
  go_ret
  exact⟨_,rfl,by rw[Zx];exact K.pick 4 [1,3,0,2]⟩
section
section
variable {P:Program} {ops:Array Oper} {Q:Exit->Act->World->Prop} {S:World->Prop} {L:Nat}
theorem sf(x:∀(j:Nat) (o:Oper) K b,ops[j]? =some o->o.op≠ .select K b)(I:rM ops L=true)(C:∀d v c a w,Q (.panic c) (a.put d v) w->Q (.panic c) a w)
 (n:Nat) {w:World} (N:S w):∀(y:List Nat) (listed l:Array Bool) (a:Act),nz ops L y listed=some l->
  jm P ops S (λt=>AT P ops Q S L n l t w) y a->AT P ops Q S L (y.length+n) listed a w
 |[],listed,l,a,h,R=>by
  simp only[nz,Wj]at h;subst h;rw[MJ,xS];exact R
 |i::r,listed,l,a,h,R=>by
  unfold nz at h
  split at h
  ·rename_i D
   simp only[mf,decide_eq_true_eq]at D;obtain⟨⟨W,U⟩,g⟩:=D;obtain⟨o,v,q,E,R⟩:=R;have:=sf x I C n N r _ l _ h R;rw[qR,show r.length+1+n=(r.length+n)+1 by omega];exact wP q x I g (C _ _) _ listed a w (Region.free_spec q W) (by simpa using U) E N this
  ·cases h
def UW(ops:Array Oper)(L n:Nat)(y:List Nat)(l:Array Bool):Bool:=
 Region.noSelect ops&&rM ops L&&(y.length+n==ops.size)&&nz ops L y (Array.replicate ops.size false)==some l
def rU(P:Program)(ops:Array Oper)(Q:Exit->Act->World->Prop)(S:World->Prop)(L k:Nat)(listed:Array Bool)(i:Nat)(a:Act)(w:World):Prop:=
 wpOp P ops Q i (λt O=>(i<L->S O)/\AT P ops Q S L k (listed.setIfInBounds i true) t O) a w
theorem vW{k:Nat}{listed:Array Bool}{a:Act}{w:World}(W:List Nat)(h:Region.ready .any ops listed=W)(X:W≠[])(H:∀i∈W,rU P ops Q S L k listed i a w):AT P ops Q S L (k+1) listed a w:=
 ⟨λK=>absurd (h.symm.trans K) X,λi z=>H i (h▸z)⟩
end
section
variable {P:Program} {l:List Oper} {Q:Exit->Act->World->Prop} {S:World->Prop} {L:Nat}
theorem rT{id:Nat}{a:Act}{w:World}{l:List Oper}(S:World->Prop)(L n:Nat)(y:List Nat)(listed:Array Bool)(p:P.follows .mixedOrders=true)(A:UW l.toArray L n y listed=true)
 (C:∀d v c a w,Q (.panic c) (a.put d v) w->Q (.panic c) a w)
 (h:∀W:World,W=w.drew->S W/\jm P l.toArray S (λt=>AT P l.toArray Q S L n listed t W) y a):(Code.region id l.toArray true).wp P Q a w:=by
 obtain⟨N,R⟩:=h _ rfl;simp only[UW,mf,beq_iff_eq]at A;obtain⟨⟨⟨x,I⟩,g⟩,A⟩:=A;refine wp_region_any p (mD (S:=S) (L:=L) _ _ _ _ ?_);rw[<-g];exact sf (Region.noSelect_spec x) I C n N y _ listed a (by rw[g];exact A) R
theorem Gj{k:Nat}{listed:Array Bool}{i:Nat}{a:Act}{w O:World}{o:Oper}{v:Value}(q:l[i]? =some o)(C:o.guard=none)
 (d:(execOp a.eval o).run P w= .ok (.value v) O) (N:i<L->S O) (h:AT P l.toArray Q S L k (listed.setIfInBounds i true) (a.put o.dst v) O):rU P l.toArray Q S L k listed i a w:=by
 unfold rU wpOp;have F:l.toArray[i]? =some o:=by simpa using q
 simp only[F];rw[iP acv];refine .inl ?_;unfold Oper.wp;rw[d];exact⟨N,h⟩
end
theorem zo{P:Program}{l:List Oper}{Q:Exit->Act->World->Prop}{S:World->Prop}{L:Nat}{k:Nat}{listed:Array Bool}{i:Nat}{a:Act}{w:World}{o:Oper}{f:FuncId}{args:Vq}(q:l[i]? =some o)(C:o.guard=none)
 (d:(execOp a.eval o).run P w= .ok (.enter f args) w)
 (h:Calls P f args w λe O=>∃v,e= .returned v/\(i<L->S O)/\AT P l.toArray Q S L k (listed.setIfInBounds i true) (a.put o.dst v) O):rU P l.toArray Q S L k listed i a w:=by
 exact adA
theorem Gu{P:Program}{l:List Oper}{Q:Exit->Act->World->Prop}{S:World->Prop}{L:Nat}{n:Nat}{listed:Array Bool}{a:Act}{w:World}(y:List Nat)(b:Array Bool)(x:Region.noSelect l.toArray=true)(I:rM l.toArray L=true)(C:∀d v c a w,Q (.panic c) (a.put d v) w->Q (.panic c) a w)
 (N:S w) (R:nz l.toArray L y listed=some b) (h:jm P l.toArray S (λt=>AT P l.toArray Q S L n b t w) y a):AT P l.toArray Q S L (y.length+n) listed a w:=
 sf (Region.noSelect_spec x) I C n N y listed b a R h
end
section
section
variable {P:Program} {l:List Oper} {Q:Exit->Act->World->Prop} {S:World->Prop} {L:Nat}
theorem BW{k:Nat}{listed:Array Bool}{i:Nat}{a:Act}{w:World}{o:Oper}{f:FuncId}{args:Vq}(q:l[i]? =some o)(C:o.guard=none)
 (d:(execOp a.eval o).run P w= .ok (.enter f args) w)
 (h:Calls P f args w λe O=>∃v,e= .returned v/\(i<L->S O)/\AT P l.toArray Q S L k (listed.setIfInBounds i true) (a.put o.dst v) O):rU P l.toArray Q S L k listed i a w:=by
 exact adA
theorem Ly{k:Nat}{listed:Array Bool}{a:Act}{w:World}(i:Nat)(U:Region.ready .any l.toArray listed=[i])(h:rU P l.toArray Q S L k listed i a w):AT P l.toArray Q S L (k+1) listed a w:=
 vW [i] U abN (λj H=>by rw[nN.1 H];exact h)
theorem Tv{n:Nat}{listed:Array Bool}{a:Act}{w:World}(y:List Nat)(b:Array Bool)(x:Region.noSelect l.toArray=true)(I:rM l.toArray L=true)(C:∀d v c a w,Q (.panic c) (a.put d v) w->Q (.panic c) a w)
 (N:S w) (R:nz l.toArray L y listed=some b) (h:jm P l.toArray S (λt=>AT P l.toArray Q S L n b t w) y a):AT P l.toArray Q S L (y.length+n) listed a w:=
 sf (Region.noSelect_spec x) I C n N y listed b a R h
end
section
variable {I:aK} {w:World} {L:List az} {g:Nat} {m:Nat->Rg}
theorem ud{α:Type}(f:Nat->α)(k:Nat):aI f k (f k)=f:=by
 funext i
 by_cases h:i=k
 ·subst h;rw[aT]
 ·rw[bS _ _ _ _ h]
theorem St.CP{V:Nat->RV}{R:World->Prop}{k j:Nat}{x:Rg}{p:RV}{u:Value}(h:St I w (iy g V m::dD V m::bj R::L))(Q:k<4)(H:j<7)
 (y:Ee x p=(Ee (m k) (V k)).set j u) (J:∀O,AZ O (V k) (m k)->R O->AZ O p x):St I (w.setCell ⟨g,k*7+j,none⟩ u) (iy g (aI V k p) (aI m k x)::dD (aI V k p) (aI m k x)::L):=by
 have Z:=h.bE (k*7+j) u;rw[uR m V Q H y]at Z;exact aeQ
theorem St.TI(h:St I w L):St I (w.alloc (.cells (ni tv (λ_=>xL)) 90)) (iy w.heap.size (λ_=>xL) tv::dD (λ_=>xL) tv::L):=
 (h.bH (R:=λw=>∀k,k<4->AZ w xL (tv k)) (λO _ _k _=>⟨λ_ _=>ay.none_ O _,cn.none_ _ _ _ _⟩)).alloc 90 _
theorem Mb(m:Nat->Rg)(V:Nat->RV){k:Nat}(Q:k<4){u:Value}(y:(V k).log=u):(ni m V).setIfInBounds (k*7+6) u=ni m V:=by
 rw[uR m V Q oM (x:=m k) (p:=V k) (by subst y;rfl),ud,ud]
theorem St.VY{V:Nat->RV}{k:Nat}{u:Value}{e:TypeId}{a:List (LI)}{x:Rg}(h:St I w (ab g 90 ((ni m V).setIfInBounds (k*7+6) u)::dD V m::aB e 1 dG u a::L))(Q:k<4)(J:x={m k with log:=a}):
 ∃p:RV,p.log=u/\St I w (iy g (aI V k p) (aI m k x)::dD (aI V k p) (aI m k x)::L):=by
 obtain⟨b,Z⟩:=h.tW.nj.RP;rw[uR m V Q oM (x:=x) (p:={V k with log:=u,cs:=b}) (by subst J;rfl)]at Z;refine⟨{V k with log:=u,cs:=b},rfl,?_⟩;have G:=Z.sX;exact(G.swap.tW.swap.oY (λO M S=>CV M ⟨λj H=>by subst J;exact(M k Q).b j H,by subst J;exact S⟩)).swap
theorem l3(m:Nat->Rg)(V:Nat->RV){k:Nat}(Q:k<4)(u:Value):((ni m V).setIfInBounds (k*7+6) u)[k*7+6]? =some u:=by
 rw[Array.getElem?_setIfInBounds,iP rfl,iP (show k*7+6<(ni m V).size from(by omega:k*7+6<28))]
end
theorem Rd.Pe(r:Rd)(k i:Nat)(h:k<=i):(r.gB k).1 i=Rg.zero:=by
 induction k with
 |zero=>rfl
 |succ k K=>
  show aI (r.gB k).1 k _ i=_;rw[bS _ _ _ _ oM,K oM]
theorem Ka(l:List (LI))(x:LI):(l++[x]).all fJ=(l.all fJ&&fJ x):=by simp
theorem Nd(m:Nat->Rg)(k j:Nat)(x:Rg)(h:j<=k):lF (aI m k x) j=lF m j:=by
 induction j with
 |zero=>rfl
 |succ j K=>rw[tI,tI,K oM,bS _ _ _ _ oM]
theorem Nb(b:Nat->LI)(k j:Nat)(x:LI)(h:j<=k):ma (aI b k x) j=ma b j:=by
 induction j with
 |zero=>rfl
 |succ j K=>rw[tr,tr,K oM,bS _ _ _ _ oM]
theorem JE(b:Nat->LI)(j:Nat)(x:LI):ma (aI b j x) (j+1)=(ma b j&&fJ x):=by
 rw[tr,Nb _ _ _ _ (io _),aT]
theorem QQ(r:Rd)(k:Nat)(ok:Bool)(h:ok=(lF (r.gB k).1 k&&ma (r.gB k).2.h3.1 4&&(r.gB k).2.h5.1.all fJ)):
 lF (r.gB (k+1)).1 (k+1)=(ok&&decide ((r.gB k).2.h5.1.length<=4)&&(decide (0<(r.gB k).2.h1.1)||(r.gB k).2.h2.1==0)):=by
 show lF (aI (r.gB k).1 k (r.gB k).2.rg) (k+1)=_;rw[tI,Nd _ _ _ _ (io _),aT,h];show(_&&(_&&_&&_&&_))=_;simp only[Zu]
 rfl
theorem Jb(r:Rd)(k:Nat):(r.gB (k+1)).1=aI (r.gB k).1 k ⟨(r.gB k).2.h1.1,(r.gB k).2.h2.1,(r.gB k).2.h3.1,(r.gB k).2.h5.1⟩:=rfl
end
section
section
variable {α:Type}
def cm(C:List (LV×α)):LV:=C.flatMap Prod.fst
def sized(size:Nat)(C:List (LV×α)):Prop:=∀p∈C,p.1.length=size
theorem iY(a b:List (LV×α)):cm (a++b)=cm a++cm b:=by simp[cm]
theorem kH{size:Nat}(C:List (LV×α))(h:sized size C):(cm C).length=C.length*size:=by
 induction C with
 |nil=>simp[cm]
 |cons p r K=>
  have Z:=h p abN;have G:=K (λq d=>h q (by simp[d]));show(p.1++cm r).length=(r.length+1)*size;rw[dB,Z,G,xh];omega
theorem sized.take{size:Nat}{C:List (LV×α)}(h:sized size C)(k:Nat):sized size (C.take k):=λp P=>h p (TH P)
theorem sized.drop{size:Nat}{C:List (LV×α)}(h:sized size C)(k:Nat):sized size (C.drop k):=λp P=>h p (TW P)
theorem sized.append{size:Nat}{a b:List (LV×α)}(h:sized size a)(G:sized size b):sized size (a++b):=λp P=>(oc.1 P).elim (h p) (G p)
theorem nB{size:Nat}(C:List (LV×α))(h:sized size C)(k:Nat)(Q:k<=C.length):(cm C).take (k*size)=cm (C.take k):=by
 have Z:(cm (C.take k)).length=k*size:=by rw[kH _ (h.take k),fV,Hc Q]
 have G:cm C=cm (C.take k)++cm (C.drop k):=by rw[<-iY,Le]
 rw[G,<-Z,Xe]
theorem pU{size:Nat}(C:List (LV×α))(h:sized size C)(k:Nat)(Q:k<=C.length):(cm C).drop (k*size)=cm (C.drop k):=by
 have Z:(cm (C.take k)).length=k*size:=by rw[kH _ (h.take k),fV,Hc Q]
 have G:cm C=cm (C.take k)++cm (C.drop k):=by rw[<-iY,Le]
 rw[G,<-Z,Xo]
theorem zz{size:Nat}(C:List (LV×α))(h:sized size C)(i:Nat)(p:LV×α)(z:C[i]? =some p):((cm C).drop (i*size)).take size=p.1:=by
 have t:=(nQ.1 z).1;obtain⟨_,rfl⟩:=nQ.1 z;rw[pU C h i oM,IQ t];show(C[i].1++cm _).take size=_;rw[<-h C[i] (Oq t),Xe]
theorem qv{size:Nat}(C R:List (LV×α))(h:sized size C)(E:sized size R)(i:Nat)(z:i+R.length<=C.length):bm (cm C) (i*size) (cm R)=cm (bm C i R):=by
 unfold bm;rw[kH _ E,<-xh,nB C h i oM,pU C h _ z,iY,iY]
theorem Fc{size:Nat}:∀(N:List α) (V:LV),V.length=N.length*size->∃C:List (LV×α),C.map Prod.snd=N/\cm C=V/\sized size C
 |[],V,h=>by
  obtain rfl:V=[]:=BJ ace;exact⟨[],rfl,rfl,λ_ P=>by simp at P⟩
 |x::r,V,h=>by
  rw[qR,xh,Eh]at h;obtain⟨C,Z,G,M⟩:=Fc (size:=size) r (V.drop size) ab2;refine⟨(V.take size,x)::C,by simp[Z],?_,λp P=> ?_⟩
  ·show V.take size++cm C=V
   rw[G,Le]
  ·rcases qQ.1 P with rfl|P
   ·show(V.take size).length=size
    exact ab5
   ·exact M p P
end
section
variable {α:Type} {I:aK} {w:World} {L:List az} {e:TypeId} {size:Nat} {R:World->LV->α->Prop}
def Er(R:World->LV->α->Prop)(C:List (LV×α)):World->Prop:=λw=>∀p∈C,R w p.1 p.2
theorem St.Kp{n c:Nat}{N:List α}(h:St I w (aB e size R (.slice A n c) N::L)):
 ∃C:List (LV×α),C.map Prod.snd=N/\n=C.length/\sized size C/\St I w (ct e size (.slice A n c) n (cm C)::bj (Er R C)::L):=by
 obtain⟨V,W,F,Z⟩:=h.cu;obtain⟨C,u,Y,P⟩:=Fc N V (by rw[F,W]);have g:C.length=N.length:=by rw[<-u,qI]
 refine⟨C,u,oM,P,?_⟩;rw[Y];refine(Z.swap.bC (λO U p o=> ?_)).swap;obtain⟨i,z⟩:=List.mem_iff_getElem?.1 o;have J:N[i]? =some p.2:=by rw[<-u,zA,z];rfl
 have:=U i p.2 J;rwa[<-Y,zz C P i p z]at this
theorem St.OU{v:Value}{q:Nat}{C:List (LV×α)}{N:List α}(h:St I w (ct e size v q (cm C)::bj (Er R C)::L))(W:sized size C)(J:C.map Prod.snd=N)(d:q=C.length):St I w (aB e size R v N::L):=by
 subst J;subst d;refine St.eu (f:=λV=>aX (ct e size v (C.map Prod.snd).length V) (bj (λw=>∀(i:Nat) y,(C.map Prod.snd)[i]? =some y->R w ((V.drop (i*size)).take size) y))) (cm C) ?_;refine St.aM ?_;rw[qI];refine(h.swap.bC (λO U i y z=> ?_)).swap;rw[zA]at z
 cases o:C[i]? with
 |none=>rw[o]at z;simp at z
 |some p=>
  rw[o]at z;obtain rfl:p.2=y:=by simpa using z
  rw[zz C W i p o];exact U p (qP o)
theorem St.pf{b n c:Nat}{N:LV}(h:St I w (ct e size (.slice (aO b) n c) n N::L))(o:Nat)(R:LV)(q:o+R.length<=n*size):
 St I (w.setCells b o R) (ct e size (.slice (aO b) n c) n (bm N o R)::L):=
 h.oN (kB (h.row 0 rfl) o q) (jS b R o w (Fr.refl _ _) (λ_=>rfl)) (.inl rfl)
theorem St.vi{n c m:Nat}{N:LV}(h:St I w (ct e size (.slice A n c) n N::L))(p:m<=n):
 St I w (ct e size (.slice A m c) m (N.take (m*size))::L):=by
 exact adh
end
section
variable {P:Program} {I:aK} {w:World} {L:List az} {t e:TypeId} {z:Value} {size bytes:Nat}
theorem St.vT(M:fY P t e z size bytes){b n c:Nat}{N:LV}(h:St I w (ct e size (.slice (aO b) n c) n N::L))(i j S:Nat)(a:Addr)(T:j<n->a=⟨b,j*size,none⟩)
 (R:i<=j) (H:j<=n) (Z:∀u∈N,u.oneCell'=true):
 ∃O,(∀l,(Builtin.append_ #[t,t] l #[.slice (aO b) i c,.slice (some a) (n-j) S]).run P w= .ok (.slice (aO b) (i+(n-j)) c) O)/\
  St I O (ct e size (.slice (aO b) n c) n (bm N (i*size) (N.drop (j*size)))::L):=by
 have r:=h.row 0 rfl;obtain⟨G,X,_,B,_⟩:=info_parts M.kF;obtain⟨E,K,q,V,W,p,_⟩:=mF r;have F:(N.drop (j*size)).length=(n-j)*size:=by rw[km,r.1,Nat.sub_mul]
 have x:i*size<=j*size:=vz _ R;have J:j*size<=n*size:=vz _ H;have C:n*size<=E.size:=by rw[V];exact vz _ W
 have d:i*size+(N.drop (j*size)).length<=n*size:=by rw[F,Nat.sub_mul];omega
 have D:∀k u,(N.drop (j*size))[k]? =some u->w.cell? (a.add k)=some u:=by
  intro k u y;have Q:=(nQ.1 y).1;by_cases A:j<n
  ·rw[T A]
   have Y:=r.cells (g:=b) rfl (j*size+k) u (by rw[<-zU];exact y);have o:(⟨b,0,none⟩:Addr).add (j*size+k)=(⟨b,j*size,none⟩:Addr).add k:=by
    unfold Addr.add
    split<;>split<;>simp_all
   rwa[o]at Y
  ·have:n-j=0:=oM
   rw[F,this]at Q;omega
 have U:=λl=>run_append_room (P:=P) w t l e G M.ht X b i c E K a (n-j) S (N.drop (j*size)) (by rw[B];exact F) D (λu y=>Z u (TW y)) oM (by rw[B];omega);refine⟨_,U,?_⟩;rw[B];refine h.oN ?_ ?_ (.inl rfl)
 ·refine tq (setRow_heap w b E _ e _ K) ?_ ?_ W p (iD _)
  ·show(bm E.toList (i*size) (N.drop (j*size))).take (n*size)=_
   rw[xB _ _ _ _ d (by simpa using C),q]
  ·rw[RT]
   show(bm E.toList (i*size) (N.drop (j*size))).length=_;rw[ig E.toList (i*size) (N.drop (j*size)) (by rw[UR];exact qJ d C),UR,V]
 ·exact⟨rfl,rfl,rfl,by simp,λk _ Q=>setRow_other w b k _ (λe=>Q (by simp[Value.ownBlock,e]))⟩
theorem St.pA(N:fY P t e z size bytes)(o:∀w,(zeroValue e).run P w= .ok z w)(S:∀u∈z.cells,u.oneCell'=true){b n c:Nat}{E:LV}(h:St I w (ct e size (.slice (aO b) n c) n E::L))(i j r:Nat)(a:Addr)(T:i<j->a=⟨b,i*size,none⟩)
 (D:i<=j) (H:j<=n):
 ∃O R,(∀l,(Builtin.clear_ #[t] l #[.slice (some a) (j-i) r]).run P w= .ok (.tuple #[]) O)/\R.length=(j-i)*size/\
  St I O (ct e size (.slice (aO b) n c) n (bm E (i*size) R)::L):=by
 by_cases M:i<j
 ·rw[T M]
  have U:=h.row 0 rfl;have x:i*size+(j-i)*size<=n*size:=by rw[<-xh];exact vz _ oM
  have F:(Builtin.zeroCells z.cells (j-i)).toList.length=(j-i)*size:=by rw[UR,size_zeroCells,N.IU]
  have g:=iX U (i*size) ((j-i)*size) x;have G:=run_storeCells_cells (P:=P) b (i*size) (Builtin.zeroCells z.cells (j-i)).toList 0 w (λk Q=>by rw[yd];exact(g k oM).1) (λk Q=>by rw[yd];exact(g k oM).2) (by
   intro u y;have V:0<z.cells.size:=by rw[N.IU];exact N.kN
   unfold Builtin.zeroCells at y;rw[Yy,um]at y;obtain⟨k,_,rfl⟩:=y;have Q:=Nat.mod_lt k V;rw[getElem!_pos z.cells _ Q];exact S _ (Array.getElem_mem Q))
  simp only[yd]at G;refine⟨_,_,?_,F,h.pf (i*size) _ (by rw[F];exact x)⟩;intro l;obtain⟨m,p⟩:∃m,j-i=m+1:=⟨j-i-1,oM⟩;rw[p]at G⊢;simp[Builtin.clear_,run_underlying N.ht,o,G]
 ·have K:j-i=0:=oM
  refine⟨w,[],?_,by rw[K];simp,by simpa[bm]using h⟩;rw[K];intro l;simp[Builtin.clear_,run_underlying N.ht]
theorem wi{ops:Array Oper}{rest:List Oper}{o:Oper}{ac:Act}{Q:Exit->Act->World->Prop}{s x:Operand}{v u g:Value}{O:World}(t:TypeId)(A:o.guard=none)
 (q:o.op= .call {callee:= .builtin .append,args:= #[s,x],argTypes:= #[t,t]}) (V:ac.eval s=v) (J:ac.eval x=u)
 (U:∀l,(Builtin.append_ #[t,t] l #[v,u]).run P w= .ok g O) (k:wpList P ops Q rest (ac.put o.dst g) O):wpList P ops Q (o::rest) ac w:=by
 refine wpList_plain A λK N=> ?_;unfold Oper.wp execOp;simp only[q,resolve,invoke,builtin,Sem.run_bind,Sem.run_pure,Result.andThen_ok,CB,nG,zF,V,J,U];exact N _ _ k
end
end
theorem St.GF{α:Type}{I:aK}{w:World}{L:List az}{e:TypeId}{size:Nat}{R:World->LV->α->Prop}{n c:Nat}{N:List α}(h:St I w (aB e size R (.slice A n c) N::L))(Y:0<size){k:Nat}{x:α}(Q:N[k]? =some x):
 ∃T K,A=some T/\K.length=size/\(∀j u,K[j]? =some u->w.cell? ((T.add (k*size)).add j)=some u)/\R w K x/\n=N.length/\St I w (bj (λO=>R O K x)::aB e size R (.slice A n c) N::L):=by
 obtain⟨V,W,F,Z⟩:=h.cu;have r:=(nQ.1 Q).1;have B:(k+1)*size<=n*size:=vz _ oM;rw[xh,Eh]at B;have t:=Z.sl;have U:=Z.get 1 rfl k x Q;obtain⟨T,o,_,_,D⟩:=t.2 oM;refine⟨T,(V.drop (k*size)).take size,o,by rw[fV,km];omega,λj u y=> ?_,U,W,?_⟩
 ·rw[eF]
  refine D (k*size+j) u ?_;exact aei
 ·have G:=(Z.copy 1 rfl).bC (R':=λO=>R O ((V.drop (k*size)).take size) x) (λO U=>U k x Q)
  have M:=G.sX;subst W;exact(St.eu (f:=λV=>aX (ct e size (.slice A N.length c) N.length V) (bj (λw=>∀(i:Nat) x,N[i]? =some x->R w ((V.drop (i*size)).take size) x))) V M.aM).swap
theorem St.eT{α:Type}{I:aK}{w:World}{L:List az}{e:TypeId}{size:Nat}{R:World->LV->α->Prop}{v:Value}{N:List α}(h:St I w (aB e size R v N::L)):∃A c,v= .slice A N.length c/\N.length<=c/\c<=maxLen:=by
 obtain⟨A,c,q,V,rfl,d,Z⟩:=h.rN;subst d;rcases(Z.row 0 rfl).2 with⟨G,K⟩|⟨g,cap,E,G,C,l,D,p,_⟩
 ·injection G with G M S
  exact⟨A,c,rfl,oM,by unfold maxLen;omega⟩
 ·injection G with G M S
  exact⟨A,c,rfl,oM,oM⟩
def jA{L:Type}(f:L->PU->Bool×L):L->Nat->List PU->Int×L
 |s,_,[]=>(-1,s)
 |s,i,x::r=>if(f s x).1=true then((i:Int),(f s x).2)else jA f (f s x).2 (i+1) r
def eL{L:Type}(f:L->PU->Bool×L):L->List PU->List PU
 |_,[]=>[]
 |s,x::r=>if(f s x).1=true then eL f (f s x).2 r else x::eL f (f s x).2 r
def qC{L:Type}(f:L->PU->Bool×L)(s:L)(l:List PU):L:=l.foldl (λs x=>(f s x).2) s
theorem Mp{I:aK}{L:Type}(T:L->List az)(f:FuncId)(cap:Value)(p:L->PU->Bool×L)(J:L)(l:List PU)(A:OA)(n c:Nat)(w:World)
 (g:∀(args:Vq) (W:World),Sem.run prog (callFunc f args) W= .ok (.enter f args) W)
 (hF:∀(s:L) (x:PU) (v:Value) (W:World),x∈l->St I W (aB 213 3 bV (.slice A n c) l::T s)->Calls prog f #[tP x v,cap] W λe K=>e= .returned (.bool (p s x).1)/\St I K (aB 213 3 bV (.slice A n c) l::T (p s x).2))
 (h:St I w (aB 213 3 bV (.slice A n c) l::T J)):
 Rt I w 159 #[.slice A n c,.func (.func f) #[] #[cap]] (iI (jA p J 0 l).1) (aB 213 3 bV (.slice A n c) l::T (jA p J 0 l).2):=by
 obtain⟨A',c',e,X,y⟩:=h.eT;injection e with u Y q;subst u;subst q;have b:=aa Y;have B0:n<=c:=oM
 have A0:(c:Int)<=9223372036854775807:=by unfold maxLen at y;omega
 refine nK h hF g (show jA p J 0 l=jA p J 0 (l.drop 0)from rfl) λH Z M j=>?_;clear h Y hF g y X
 go_enter func159,ntmps159
 go_wp2_with fail
 go_loopg [8] n (λU i wr=>∃(k:Nat) (s:L),U=n-k/\k<=n/\i= iI (k:Nat)/\jA p J 0 l=jA p s k (l.drop k)/\St I wr (aB 213 3 bV (.slice A n c) l::T s))
 case atStart=>exact⟨0,J,rfl,oM,rfl,j.out,H⟩
 case round=>
  clear H j;obtain⟨k,s,C,hk,rfl,z,h⟩:=hrel;have a:=aa C;clear C;by_cases t:k<n
  ·have B:=g7 (l:=l) (i:=k) abO
   have G:=IQ (l:=l) (i:=k) abO;generalize l[k]' abO=x at B G;have V:jA p s k (l.drop k)=if(p s x).1=true then((k:Int),(p s x).2)else jA p (p s x).2 (k+1) (l.drop (k+1)):=by rw[G];rfl
   have r:=aa (qP B);obtain⟨ad,cs,rfl,_,D,⟨v,rfl,o⟩,-,R⟩:=h.GF oM B;obtain⟨Q,d,rfl,_,_,_⟩:=id o;obtain⟨S,u,Y⟩:=pW D;refine bq (z.trans V) h λO F=>?_;clear B h R o D G V z;have i0:(0:Int)<=(k:Int):=oM
   have i1:(k:Int)<(n:Int):=oM
   go_wp2_with fail
   rw[M.out,Oper.upon_enter];refine qH (Z s x (.slice Q x.data.length d) _ r F) λw2 N=>?_;clear F S u Y
   cases P:(p s x).1 with
   |true=>
    exact ad6
   |false=>
    have E:=aa (O.trans (iN acx))
    go_wp2_with fail
    go_roundg (n-(k+1))
    case measure=>exact adI
    case rel=>exact⟨k+1,(p s x).2,rfl,oM,by go_num,E,N⟩
  ·exact adB
theorem Nm(p:PU->Bool)(l:List PU):∀i,jA (λ(_:Unit) x=>(p x,())) () i l=(gu p i l,()):=by
 induction l with
 |nil=>intro i;rfl
 |cons x r K=>
  intro i;show(if p x=true then((i:Int),())else jA _ () (i+1) r)=((if p x=true then(i:Int)else gu p (i+1) r),())
  split
  ·rfl
  ·exact K _
theorem tH{I:aK}{L:List az}(f:FuncId)(cap:Value)(p:PU->Bool)(l:List PU)(A:OA)(n c:Nat)(w:World)
 (F:∀(args:Vq) (W:World),Sem.run prog (callFunc f args) W= .ok (.enter f args) W)
 (hF:∀(x:PU) (v:Value) (W:World),x∈l->St I W (aB 213 3 bV (.slice A n c) l::L)->Calls prog f #[tP x v,cap] W λe g=>e= .returned (.bool (p x))/\St I g (aB 213 3 bV (.slice A n c) l::L))
 (h:St I w (aB 213 3 bV (.slice A n c) l::L)):
 Rt I w 159 #[.slice A n c,.func (.func f) #[] #[cap]] (iI (gu p 0 l)) (aB 213 3 bV (.slice A n c) l::L):=by
 have Z:=Mp (λ_:Unit=>L) f cap (λ_ x=>(p x,())) () l A n c w F (λ_ x v W B J=>hF x v W B J) h;rw[Nm]at Z;exact Z
theorem vr{I:aK}{L:List az}(f:FuncId)(cap:Value)(p:PU->Bool)(l:List PU)(A:OA)(n c:Nat)(w:World)
 (F:∀(args:Vq) (W:World),Sem.run prog (callFunc f args) W= .ok (.enter f args) W)
 (hF:∀(x:PU) (v:Value) (W:World),x∈l->St I W (aB 213 3 bV (.slice A n c) l::L)->Calls prog f #[tP x v,cap] W λe g=>e= .returned (.bool (p x))/\St I g (aB 213 3 bV (.slice A n c) l::L))
 (h:St I w (aB 213 3 bV (.slice A n c) l::L)):
 Rt I w 113 #[.slice A n c,.func (.func f) #[] #[cap]] (.bool (l.any p)) (aB 213 3 bV (.slice A n c) l::L):=by
 refine bq (tH f cap p l A n c w F hF h) (yL p l 0) λO Q=>?_;exact afi
theorem jx:fY prog 67 213 (.agg #[iI 0,iI 0,sN]) 3 40:=⟨underlying67,kR,kR,oM⟩
theorem FK(w:World):(zeroValue 213).run prog w= .ok (.agg #[iI 0,iI 0,sN]) w:=by
 obtain⟨q,X,o,_,_⟩:=info_parts jx.kF;simp[zeroValue,typeInfo,X,o]
theorem Dp{I:aK}{L:List az}(l:List PU)(A:OA)(n c i j:Nat)(w:World)(H:j=i+1)(z:i<l.length)(h:St I w (aB 213 3 bV (.slice A n c) l::L)):
 Calls prog 162 #[.slice A n c,iI i,iI j] w λe O=>∃q,q+1=n/\e= .returned (.slice A q c)/\St I O (aB 213 3 bV (.slice A q c) (l.eraseIdx i)::L):=by
 obtain⟨C,o,W,V,Z⟩:=h.Kp;have B0:C.length=l.length:=by rw[<-o,qI]
 obtain⟨b,rfl⟩:=iE (Z.row 0 rfl) oM;obtain⟨A',c',S,D,hm⟩:=h.eT;injection S with e1 S e2;subst e2;refine nK Z o V W λF HZ G R=>?_;have E0:i<n:=oM
 have i0:(0:Int)<=(i:Int):=oM
 have i1:(i:Int)<=(j:Int):=oM
 have i2:(j:Int)<=(n:Int):=oM
 have i3:(n:Int)<=(c:Int):=oM
 have i4:(0:Int)<=(j:Int):=oM
 have i5:(0:Int)<=(n:Int):=oM
 have i6:(j:Int)<=(c:Int):=oM
 have i7:(i:Int)<=(c:Int):=oM
 have bne:((i:Int)==(j:Int))=false:=jM oM;refine bq H S λg HL=>?_;clear h Z o V B0 S W z e1 D H
 go_enter func162,ntmps162
 go_wp2_with fail
 refine fP 6 kR kR (λC0 B=> ?_);have Q:=aa (F.drew);rw[<-B]at Q;clear B F;simp only[IE,Hd,NC,Bg]
 repeat still_step
 try refine wpStill_nil ?_
 obtain⟨a,T,K⟩:∃a:Addr,(if c=j then some (⟨b,0,none⟩:Addr)else some ⟨b,j*3,none⟩)=some a/\(j<n->a=⟨b,j*3,none⟩):=by
  exact adZ
 rw[T];have k:∀u∈cm C,u.oneCell'=true:=by
  intro u y;obtain⟨p,P,y⟩:=List.mem_flatMap.1 y;obtain⟨v,hv,A,D0,z,_⟩:=(Q.get 1 rfl) p P;rw[hv,z]at y;simp only[qQ,qo,or_false]at y;rcases y with rfl|rfl|rfl<;>rfl
 obtain⟨w2,U,J⟩:=St.vT jx Q i j (c-j) a K oM oM k;obtain⟨q,d⟩:=nM (i+(n-j));have r:q+1=n:=by rw[d];have:=g.out;omega
 rw[<-d]at U;refine wi 67 rfl rfl rfl rfl U ?_;clear U T K k;refine iG J d r λN HQ t=>?_;have q0:(0:Int)<=(q:Int):=oM
 have q1:(q:Int)<=(n:Int):=oM
 have q2:(q:Int)<=(c:Int):=oM
 have q3:¬c=q:=oM
 obtain⟨w3,ys,x,hy,M⟩:=St.pA jx FK dC N q n (c-q) ⟨b,q*3,none⟩ (λ_=>rfl) oM oM;have D:=x 0;have Y:=aa M;clear J Q d r x hy N M;simp only[Act.put]
 go_wp2_with fail
 go_ret
 refine⟨q,t,rfl,?_⟩;have E:=Y.vi (m:=q) (by have:=t.out;omega);have e:(bm (bm (cm C) (i*3) ((cm C).drop (j*3))) (q*3) ys).take (q*3)=cm (C.eraseIdx i):=by
  have H:=g.out;have W:=R.out;have d:=t.out;have f1:(cm C).take (i*3)=cm (C.take i):=nB C G i oM;have f2:(cm C).drop (j*3)=cm (C.drop j):=pU C G j oM;have f3:(cm (C.take i)++cm (C.drop j)).length=q*3:=by
   rw[<-iY,kH _ ((G.out.take i).append (G.out.drop j)),dB,fV,km]
   exact adS
  unfold bm;rw[f1,f2];rw[XA f3,pI,XA f3,<-iY,H,Wp]
 rw[e]at E;have A0:(C.eraseIdx i).length=q:=by
  have W:=R.out;exact aeL
 refine(E.swap.bC (λO U p P=>U p (Wo P))).swap.OU (λp P=>G p (Wo P)) ?_ A0.symm;rw[<-HZ.out,Wp,Wp,yu,UO,WN]
section
open Go.Shelf
variable {cx:CX}
def cF(r i:Int)(x:PU):Bool:=x.region==r&&x.index==i
def ak(cx:CX)(g:Nat)(j wr:List PU):az:=Bc λp:Value×Value=>aX (ab g 75 (cH cx p.1 p.2)) (aX (aB 213 3 bV p.1 j) (aB 213 3 bV p.2 wr))
theorem St.nI{I:aK}{w:World}{L:List az}{g:Nat}{j wr:List PU}(h:St I w (ak cx g j wr::L)):
 ∃A c q d,j.length<=c/\wr.length<=d/\c<=9223372036854775807/\d<=9223372036854775807/\St I w (ab g 75 (cH cx (.slice A j.length c) (.slice q wr.length d))::aB 213 3 bV (.slice A j.length c) j::aB 213 3 bV (.slice q wr.length d) wr::L):=by
 obtain⟨⟨v,u⟩,Z⟩:=h.ex;have G:=Z.star;have M:=G.swap.star;obtain⟨A,c,rfl,D,C⟩:=M.eT;obtain⟨q,d,rfl,y,a⟩:=M.swap.eT;exact⟨A,c,q,d,D,y,by unfold maxLen at C;omega,by unfold maxLen at a;omega,M.tW⟩
theorem St.gV{I:aK}{w:World}{L:List az}{g:Nat}{j wr:List PU}{v u:Value}(h:St I w (ab g 75 (cH cx v u)::aB 213 3 bV v j::aB 213 3 bV u wr::L)):St I w (ak cx g j wr::L):=
 St.eu (f:=λp:Value×Value=>aX (ab g 75 (cH cx p.1 p.2)) (aX (aB 213 3 bV p.1 j) (aB 213 3 bV p.2 wr))) (v,u) (h.sX.aM.swap.aM)
theorem Ur{I:aK}{L:List az}(b:Nat)(r i:Int)(y:PU)(v:Value)(W:World)(h:St I W L)(j:Nat)(H:L[j]? =some (ab b 166 #[iI r,iI i])):
 Calls prog 163 #[tP y v,pO b] W λe g=>e= .returned (.bool (cF r i y))/\Fr jo W g:=by
 obtain⟨a,k,d⟩:=y;have Z:=h.alloc 213 #[iI a,iI k,v];have U:(W.alloc (.cells #[iI a,iI k,v] 213)).cell? (aD b 0)=some (iI r):=(Z.ah (j+1) H).cell 0;have R:(W.alloc (.cells #[iI a,iI k,v] 213)).cell? (aD b 1)=some (iI i):=(Z.ah (j+1) H).cell 1;clear h Z H
 go_enter func163,ntmps163
 exact ada
theorem KR{I:aK}{L:List az}(b:Nat)(r i:Int)(y:PU)(v:Value)(W:World)(h:St I W L)(j:Nat)(H:L[j]? =some (ab b 166 #[iI r,iI i])):
 Calls prog 167 #[tP y v,pO b] W λe g=>e= .returned (.bool (cF r i y))/\Fr jo W g:=by
 obtain⟨a,k,d⟩:=y;have Z:=h.alloc 213 #[iI a,iI k,v];have U:(W.alloc (.cells #[iI a,iI k,v] 213)).cell? (aD b 0)=some (iI r):=(Z.ah (j+1) H).cell 0;have R:(W.alloc (.cells #[iI a,iI k,v] 213)).cell? (aD b 1)=some (iI i):=(Z.ah (j+1) H).cell 1;clear h Z H
 go_enter func167,ntmps167
 exact ada
theorem Kf{I:aK}{L:List az}(g:Nat)(j wr:List PU)(r i:Int)(w:World)(h:St I w (ak cx g j wr::L)):
 Rt I w 105 #[.pointer (some ⟨g,20,none⟩),.agg #[iI r,iI i]] (iI (gu (cF r i) 0 j)) (ak cx g j wr::L):=by
 obtain⟨A,c,q,d,_,_,_,_,Z⟩:=h.nI;have G:=Z.alloc 166 #[iI r,iI i];have C:=(G.ah 1 rfl).cell 20;have H:=aa (G.pk 4 [2,0,1,3]);clear h Z G
 go_enter func105,ntmps105
 go_wp2_with fail
 refine qK (tH 163 (pO w.heap.size) (cF r i) j A j.length c _ (enters_of func163 kR rfl) (λx v W _ J=>(Ur w.heap.size r i x v W J 1 rfl).mono (λe D ⟨Y,a⟩=>⟨Y,J.grow a⟩)) H) λR h=>?_;have N:=aa (h.pk 4 [2,0,3]);exact ae2
theorem QI{I:aK}{L:List az}(g:Nat)(j wr:List PU)(r i:Int)(w:World)(h:St I w (ak cx g j wr::L)):
 Rt I w 111 #[.pointer (some ⟨g,20,none⟩),.agg #[iI r,iI i]] (.bool (wr.any (cF r i))) (ak cx g j wr::L):=by
 obtain⟨A,c,q,d,_,_,_,_,Z⟩:=h.nI;have G:=Z.alloc 166 #[iI r,iI i];have C:=(G.ah 1 rfl).cell 21;have H:=aa (G.pk 4 [3,0,1,2]);clear h Z G
 go_enter func111,ntmps111
 go_wp2_with fail
 refine qK (vr 167 (pO w.heap.size) (cF r i) wr q wr.length d _ (enters_of func167 kR rfl) (λx v W _ J=>(KR w.heap.size r i x v W J 1 rfl).mono (λe D ⟨Y,a⟩=>⟨Y,J.grow a⟩)) H) λR h=>?_;have N:=aa (h.pk 4 [2,3,0]);exact ae2
end
section
variable {cx:CX}
theorem mQ(w:World)(a b:Int)(A:OA)(n k:Nat):(Instr.buildSlice 67 1 #[(0,.agg #[iI a,iI b,.slice A n k])]).run prog w= .ok (.slice (aO w.heap.size) 1 1) (w.alloc (.cells #[iI a,iI b,.slice A n k] 213)):=kR
theorem sJ(a b:Int)(A:OA)(n k:Nat):∀u∈[Value.int .i64 a,iI b,.slice A n k],u.oneCell'=true:=by
 intro u y;simp at y;rcases y with rfl|rfl|rfl<;>rfl
def SP(g y:Nat)(v a b d:Value)(W:World):Prop:=W.cell? (aD g 20)=some v/\W.cell? (aD y 0)=some a/\W.cell? (aD y 1)=some b/\W.cell? (aD y 2)=some d
theorem jF{I:aK}{W:World}{c:List az}{g y:Nat}{v u a b d:Value}(h:St I W c)(i j:Nat)(z:c[i]? =some (ab g 75 (cH cx v u)))(H:c[j]? =some (ab y 213 #[a,b,d])):SP g y v a b d W:=
 ⟨(h.ah i z).cell 20,(h.ah j H).cell 0,(h.ah j H).cell 1,(h.ah j H).cell 2⟩
theorem uk{w:World}{b:Nat}{t:TypeId}{cs:LV}(h:eK w b t cs.toArray):Sl w Any cs.length (aO b) 1 cs:=
 ⟨by simp,λ_=>⟨_,rfl,trivial,h.lt,λj u y=>by
  rw[show(⟨b,0,none⟩:Addr).add j=⟨b,j,none⟩by simp[Addr.add];exact UQ,h.cell];simpa using y⟩⟩
theorem Qh{I:aK}{L:List az}(g:Nat)(D wr:List PU)(i:Nat)(x:PU)(w:World)(B:D[i]? =some x)(hl:D.length<=1000000)(h:St I w (ak cx g D wr::L)):
 Rt I w 106 #[.pointer (some ⟨g,20,none⟩),iI i] (.tuple #[]) (ak cx g (D.eraseIdx i++[x]) wr::L):=by
 obtain⟨A,c,gw,d,hc,_,G0,_,Z⟩:=h.nI;have k:=(nQ.1 B).1;obtain⟨n,l⟩:=nM (D.length);rw[<-l]at Z hc;have C:=(Z.ah 0 rfl).cell 20;obtain⟨T,cs,rfl,_,F,⟨v,rfl,hv⟩,-,G⟩:=(Z.pk 3 [1,0,2]).GF oM B;obtain⟨X,a,rfl,_,_,_⟩:=id hv;obtain⟨e0,e1,e2⟩:=pW F;refine iG G k l λP O HN=>?_;have i0:(0:Int)<=(i:Int):=oM
 have i1:(i:Int)<(n:Int):=oM
 have i2:(n:Int)<=1000000:=oM
 have f:=(Z.ah 0 rfl).frozen;clear h Z G hv F k l B hl
 go_enter func106,ntmps106
 go_wp2_with fail
 have M:=P.alloc 213 #[iI x.region,iI x.index,.slice X x.data.length a];generalize w.heap.size=y at M⊢;have r:=aa M;clear M P e0 e1 e2 C f;generalize w.alloc _=w3 at r⊢;obtain⟨j,H⟩:=nM (i+1);have t:=aa H;have jw:IntKind.i64.wrap ((i:Int)+1)=(j:Int):=by rw[H,IntWalk.i64_in _ oM];omega
 clear H;refine wZ (SP g y (.slice (some T) n c) (iI x.region) (iI x.index) (.slice X x.data.length a)) 12 5 [0,1,2,3,4,5,6,7,9] [[8,10,11,12,13,14],[10,8,11,12,13,14]] kR kR (λd=>by cases d<;>exact λ_ _ _ _ h=>h) (λW J=> ?_);have Q:=aa (r.drew);rw[<-J]at Q;clear J r;refine⟨jF Q 3 0 rfl rfl,?_⟩
 iterate 7 (refine bJ rfl rfl (λW J=>by(obtain⟨C,y0,y1,y2⟩:=J;go_simp;try rfl)) ?_;simp only[aW])
 refine bJ (v:= iI j) rfl rfl (λW J=>by(obtain⟨C,y0,y1,y2⟩:=J;go_simp;first|done|(rw[jw];try rfl))) ?_;simp only[aW];refine bJ rfl rfl (λW J=>by(obtain⟨C,y0,y1,y2⟩:=J;go_simp;try rfl)) ?_;simp only[aW];refine take_nil ?_;intro tl B0;simp only[qQ,qo,or_false]at B0;rcases B0 with rfl|rfl
 case' inl=>
  have S:=Q.pk 5 [2,0,1,3,4];refine fm (f:=162) (args:= #[.slice (some T) n c,iI i,iI j]) rfl rfl gS ?_;refine(Dp D (some T) n c i j W t O S).mono ?_;rintro e w4⟨q,o,rfl,U⟩;refine⟨_,rfl,λ_=>jF U 3 1 rfl rfl,?_⟩;simp only[aW];refine bq o (U.alloc 213 #[iI x.region,iI x.index,.slice X x.data.length a]) λE V=>?_;clear S U o Q;refine bY rfl rfl 67 1 0 _ (.agg #[iI x.region,iI x.index,.slice X x.data.length a]) rfl rfl (mQ _ _ _ _ _ _) (λ_=>jF V 4 2 rfl rfl) ?_;simp only[aW];generalize w4.heap.size=z at V⊢;generalize w4.alloc _=w6 at V⊢
 case' inr=>
  have S:=Q.alloc 213 #[iI x.region,iI x.index,.slice X x.data.length a];refine bY rfl rfl 67 1 0 _ (.agg #[iI x.region,iI x.index,.slice X x.data.length a]) rfl rfl (mQ _ _ _ _ _ _) (λ_=>jF S 4 1 rfl rfl) ?_;simp only[aW];generalize W.heap.size=z at S⊢;have U:=S.pk 6 [3,0,1,2,4,5];clear S Q;generalize W.alloc _=W4 at U⊢;refine fm (f:=162) (args:= #[.slice (some T) n c,iI i,iI j]) rfl rfl gS ?_;refine(Dp D (some T) n c i j W4 t O U).mono ?_;rintro e w6⟨q,o,rfl,u⟩;refine⟨_,rfl,λ_=>jF u 4 2 rfl rfl,?_⟩;simp only[aW];refine bq o u.swap λE V=>?_;clear U u o
 all_goals
  have R:=V.pk 6 [1,0,2,3,4,5];obtain⟨F0,A0,C0,Y⟩:=R.cu;have E0:=E.out;refine qb jx Y rfl rfl _ _ rfl rfl (aO z) 1 1 rfl [iI x.region,iI x.index,.slice X x.data.length a] (uk (cs:=[iI x.region,iI x.index,.slice X x.data.length a]) (Y.ah 2 rfl)) (sJ _ _ _ _ _) oM oM (λN b w7 p=>⟨λ_=>jF p 5 3 rfl rfl,?_⟩);simp only[aW];have K:=(p.pk 7 [0,1,4,5,6]).fS A0 rfl C0;have C:=(K.ah 1 rfl).cell 20;have f:=(K.ah 1 rfl).frozen;have D0:=aa (K.swap.bE 20 (.slice N (q+1) b));clear R Y p K E0 A0 C0 V
  iterate 2 (refine bF rfl rfl gS nD ?_;simp only[aW])
  refine cE rfl rfl 67 _ _ (.pointer (some ⟨g,20,none⟩)) (.slice N (q+1) b) rfl rfl rfl gS nD ?_;simp only[Act.put];refine cD ?_;clear C f
  go_wp2_with fail
  go_end0
  exact⟨rfl,D0.gV⟩
end
section
open Go.Shelf
variable {cx:CX}
theorem Mi{I:aK}{L:List az}(g:Nat)(wr:List PU)(A q:OA)(n c m d:Nat)(r i:Int)(w:World)(h:St I w (ab g 75 (cH cx (.slice A n c) (.slice q m d))::aB 213 3 bV (.slice q m d) wr::L)):
 Rt I w 111 #[.pointer (some ⟨g,20,none⟩),.agg #[iI r,iI i]] (.bool (wr.any (cF r i))) (ab g 75 (cH cx (.slice A n c) (.slice q m d))::aB 213 3 bV (.slice q m d) wr::L):=by
 have G:=h.alloc 166 #[iI r,iI i];have C:=(G.ah 1 rfl).cell 21;have H:=aa (G.pk 3 [2,0,1]);clear h G
 go_enter func111,ntmps111
 go_wp2_with fail
 refine qK (vr 167 (pO w.heap.size) (cF r i) wr q m d _ (enters_of func167 kR rfl) (λx v W _ J=>(KR w.heap.size r i x v W J 1 rfl).mono (λe D ⟨Y,a⟩=>⟨Y,J.grow a⟩)) H) λR h=>?_;have N:=aa (h.pk 3 [2,0]);clear H h C
 exact ac8
def rh(wr:List PU)(x:PU):Bool:= !wr.any (cF x.region x.index)
theorem Uf{I:aK}{X:az}{L:List az}(g b:Nat)(wr:List PU)(A q:OA)(n c m d:Nat)(y:PU)(v:Value)(w:World)(h:St I w (X::ab b 211 #[.pointer (some ⟨g,20,none⟩)]::ab g 75 (cH cx (.slice A n c) (.slice q m d))::aB 213 3 bV (.slice q m d) wr::L)):
 Rt I w 161 #[tP y v,pO b] (.bool (rh wr y)) (X::ab b 211 #[.pointer (some ⟨g,20,none⟩)]::ab g 75 (cH cx (.slice A n c) (.slice q m d))::aB 213 3 bV (.slice q m d) wr::L):=by
 obtain⟨a,k,i⟩:=y;have Z:=h.alloc 213 #[iI a,iI k,v];have C:=(Z.ah 2 rfl).cell 0;have U:=(Z.ah 0 rfl).cell 0;have R:=(Z.ah 0 rfl).cell 1;have H:=aa (Z.pk 5 [3,4,1,2]);clear h Z
 go_enter func161,ntmps161
 go_wp2_with fail
 refine qK (Mi g wr A q n c m d a k _ H) λQ h=>?_;have N:=aa (h.pk 4 [2,3,0,1]);clear H h C U R
 exact ac8
end
section
section
variable {α:Type} {I:aK} {w:World} {L:List az} {e:TypeId} {size:Nat} {R:World->LV->α->Prop}
theorem zd{a:Type}(N:List a)(k:Nat)(x:a)(Q:k<N.length):bm N k [x]=N.set k x:=by
 unfold bm;rw[zb2,iP Q];exact abN
theorem St.KL{n c k:Nat}{N:List α}{K:LV}{x:α}(h:St I w (aB e size R (.slice A n c) N::bj (λw=>R w K x)::L))(D:K.length=size)(d:k<N.length):
 ∃b,A=some ⟨b,0,none⟩/\St I (w.setCells b (k*size) K) (aB e size R (.slice A n c) (N.set k x)::L):=by
 obtain⟨C,o,W,V,Z⟩:=h.Kp;have a:C.length=N.length:=by rw[<-o,qI]
 obtain⟨b,rfl⟩:=iE (Z.row 0 rfl) oM;refine⟨b,rfl,?_⟩;have B:(k+1)*size<=n*size:=vz _ oM;rw[xh,Eh]at B;have G:=Z.pf (k*size) K oM;have u:=qv C [(K,x)] V (λp P=>by
  obtain rfl:p=(K,x):=by simpa using P
  exact D) k abS
 rw[show cm [(K,x)]=K by simp[cm],zd C k (K,x) oM]at u;rw[u]at G;have M:=(G.sX.oY (Q:=Er R (C.set k (K,x))) (λO Z G p P=>by
  rcases Zj P with P|rfl
  ·exact Z p P
  ·exact G)).swap
 refine M.OU (λp P=> ?_) (by rw[zdt,o]) (by rw[Yj];omega);rcases Zj P with P|rfl
 ·exact V p P
 ·exact D
end
theorem jW(p:PU->Bool)(l:List PU):∀i:Nat,(gu p i l= -1/\l.any p=false)\/∃(k:Nat) (x:PU),gu p i l=((i+k:Nat):Int)/\l[k]? =some x/\p x=true:=by
 induction l with
 |nil=>exact λi=> .inl ⟨rfl,rfl⟩
 |cons x r K=>
  intro i
  cases P:p x with
  |true=>exact .inr ⟨0,x,by simp[gu,P],rfl,P⟩
  |false=>
   rcases K (i+1)with⟨Z,G⟩|⟨k,y,Z,G,M⟩
   ·exact .inl ⟨by simp[gu,P,Z],by simp[P,G]⟩
   ·refine .inr ⟨k+1,y,?_,G,M⟩
    have e:gu p i (x::r)=gu p (i+1) r:=by simp[gu,P]
    rw[e,Z];omega
end
theorem sZ(w:World)(b o:Nat)(R:w.there b o 3)(x y:Int)(A:OA)(n c:Nat):
 (Instr.storeAt 213 (.pointer (some ⟨b,o,none⟩)) (.agg #[iI x,iI y,.slice A n c])).run prog w= .ok () (w.setCells b o [iI x,iI y,.slice A n c]):=by
 have D:=(R 0 oM).1;have S:=(R 1 oM).1;have C:=(R 2 oM).1;have G:=run_storeCells_cells (P:=prog) b o [iI x,iI y,.slice A n c] 0 w (λk Q=>by rw[yd];exact(R k Q).1) (λk Q=>by rw[yd];exact(R k Q).2) (sJ x y A n c);simp only[yd]at G;obtain⟨q,X,_,E,_⟩:=info_parts jx.kF;simp[Instr.storeAt,Instr.sureAddr,storeVar,sizeOf,typeInfo,X,E,G,Value.cells]
theorem Bs{P:Program}{w:World}{ops:Array Oper}{rest:List Oper}{o:Oper}{ac:Act}{Q:Exit->Act->World->Prop}{s x:Operand}{v u:Value}{O:World}(t:TypeId)(A:o.guard=none)
 (q:o.op= .store t s x) (V:ac.eval s=v) (J:ac.eval x=u)
 (U:(Instr.storeAt t v u).run P w= .ok () O) (k:wpList P ops Q rest (ac.put o.dst undef) O):wpList P ops Q (o::rest) ac w:=by
 exact adT
theorem St.VR{α:Type}{I:aK}{w:World}{L:List az}{e:TypeId}{size:Nat}{R:World->LV->α->Prop}{b n c k:Nat}{N:List α}(h:St I w (aB e size R (.slice (aO b) n c) N::L))(Q:k<N.length):w.there b (k*size) size:=by
 obtain⟨C,o,W,V,Z⟩:=h.Kp;have a:C.length=N.length:=by rw[<-o,qI]
 have B:(k+1)*size<=n*size:=vz _ oM;rw[xh,Eh]at B;exact iX (Z.row 0 rfl) (k*size) size oM
section
open Go.Shelf
variable {cx:CX}
def li(j wr:List PU)(r i:Int):Int:=
 if 0<=gu (cF r i) 0 j then 0 else if 6<=j.length then(if gu (rh wr) 0 j<0 then 42 else 0)else 0
def mr(j wr:List PU)(p:PU):List PU:=
 if 0<=gu (cF p.region p.index) 0 j then j.eraseIdx (gu (cF p.region p.index) 0 j).toNat++[p]
 else if 6<=j.length then(if gu (rh wr) 0 j<0 then j else j.eraseIdx (gu (rh wr) 0 j).toNat++[p])else j++[p]
def YO(y:Nat)(r i:Int)(W:World):Prop:=W.cell? (aD y 0)=some (iI r)/\W.cell? (aD y 1)=some (iI i)
theorem pK{I:aK}{W:World}{c:List az}{y:Nat}{r i:Int}(h:St I W c)(j:Nat)(H:c[j]? =some (ab y 166 #[iI r,iI i])):YO y r i W:=
 ⟨(h.ah j H).cell 0,(h.ah j H).cell 1⟩
theorem RI{I:aK}{L:List az}(g:Nat)(j wr:List PU)(r i:Int)(A0:OA)(t c0:Nat)(data:LI)(w:World)(hl:j.length<=1000000)(hd:data.length<=140737488355328)(h:St I w (ai .u8 (.slice A0 t c0) data::ak cx g j wr::L)):
 Rt I w 104 #[.pointer (some ⟨g,20,none⟩),.agg #[iI r,iI i],.slice A0 t c0] (iI (li j wr r i)) (ak cx g (mr j wr ⟨r,i,data⟩) wr::L):=by
 have Z0:t=data.length:=(h.get 0 rfl).sl.1;have h1:=h.alloc 211 #[.pointer (some ⟨g,20,none⟩)];have h2:=h1.alloc 166 #[iI r,iI i];rw[World.size_alloc]at h2;have B1:t<=140737488355328:=oM
 clear Z0 hd;have E0:=aa h2;clear h h1 h2
 go_enter func104,ntmps104
 go_wp2_with fail
 generalize w.heap.size+1=y at E0⊢;generalize w.heap.size=z at E0⊢;generalize World.alloc _ _=w2 at E0⊢;refine rT (YO y r i) 5 4 [0,1] #[true,true,false,false,false,false] kR kR (λd=>by cases d<;>exact λ_ _ _ _ h=>h) (λW J=> ?_);have HW:=aa (E0.drew);rw[<-J]at HW;clear J E0;refine⟨pK HW 0 rfl,?_⟩
 iterate 2 (refine bJ rfl rfl (λW J=>by(obtain⟨E,T⟩:=J;go_simp;try rfl)) ?_;simp only[aW])
 refine take_nil ?_;refine vW [2,4] kR dC (λq U=> ?_);simp only[qQ,qo,or_false]at U;rcases U with rfl|rfl
 case' inl=>
  refine zo (f:=23) (args:= #[.slice A0 t c0]) rfl rfl gS ((ef A0 t c0 data _ (HW.get 2 rfl).sl.2.2.2 oM HW).mono ?_);rintro e Y⟨v2,rfl,h⟩;obtain⟨P,R,rfl⟩:=h.slice;refine⟨_,rfl,λ_=>pK h 1 rfl,?_⟩;simp only[aW];have M:=h.ints;refine Gu (n:=2) [3] #[true,true,true,true,false,false] kR kR (λd=>by cases d<;>exact λ_ _ _ _ h=>h) (pK M 1 rfl) kR ?_;refine bJ rfl rfl (λW J=>by(clear J;go_simp;try rfl)) ?_;simp only[aW];refine take_nil ?_;refine ly [4,5] _ _ _ kR ?_;have S:=M.alloc 213 #[iI 0,iI 0,sN];refine lC (v:= pO Y.heap.size) (O:=Y.alloc (.cells #[iI 0,iI 0,sN] 213)) rfl rfl gS (λ_=>pK S 2 rfl) ?_;simp only[aW];have E:=(S.ah 0 rfl).cell 0;have T:=(S.ah 0 rfl).cell 1;have y2:=(S.ah 0 rfl).cell 2;have f:=(S.ah 0 rfl).frozen;have H5:=aa (((S.bE 0 (iI r)).bE 1 (iI i)).bE 2 (.slice P t R));clear h M S HW;refine cE (O:=(((Y.alloc (.cells #[iI 0,iI 0,sN] 213)).setCell ⟨Y.heap.size,0,none⟩ (iI r)).setCell ⟨Y.heap.size,1,none⟩ (iI i)).setCell ⟨Y.heap.size,2,none⟩ (.slice P t R)) rfl rfl 213 _ _ (pO Y.heap.size) (.agg #[iI r,iI i,.slice P t R]) rfl rfl rfl gS nD ?_;simp only[Act.put];refine cD ?_;clear E T y2 f;generalize Y.heap.size=p at H5⊢;generalize World.setCell _ _ _=w5 at H5⊢
 case' inr=>
  have M:=HW.alloc 213 #[iI 0,iI 0,sN];refine Gj (v:= pO W.heap.size) (O:=W.alloc (.cells #[iI 0,iI 0,sN] 213)) rfl rfl gS (λ_=>pK M 1 rfl) ?_;simp only[aW];refine ly [2,3,5] _ _ _ kR ?_;generalize W.heap.size=p at M⊢;generalize World.alloc _ _=w4 at M⊢;refine fm (f:=23) (args:= #[.slice A0 t c0]) rfl rfl gS ((ef A0 t c0 data _ (M.get 3 rfl).sl.2.2.2 oM M).mono ?_);rintro e Y⟨v2,rfl,h⟩;obtain⟨P,R,rfl⟩:=h.slice;refine⟨_,rfl,λ_=>pK h 2 rfl,?_⟩;simp only[aW];refine bF rfl rfl gS (λ_=>pK h 2 rfl) ?_;simp only[aW];have S:=h.ints.swap;have E:=(S.ah 0 rfl).cell 0;have T:=(S.ah 0 rfl).cell 1;have y2:=(S.ah 0 rfl).cell 2;have f:=(S.ah 0 rfl).frozen;have H5:=aa (((S.bE 0 (iI r)).bE 1 (iI i)).bE 2 (.slice P t R));clear h M S HW;refine cE (O:=((Y.setCell ⟨p,0,none⟩ (iI r)).setCell ⟨p,1,none⟩ (iI i)).setCell ⟨p,2,none⟩ (.slice P t R)) rfl rfl 213 _ _ (pO p) (.agg #[iI r,iI i,.slice P t R]) rfl rfl rfl gS nD ?_;simp only[Act.put];refine cD ?_;clear E T y2 f;generalize World.setCell _ _ _=w5 at H5⊢
 all_goals
  have H6:Hid (St I w5 (ab p 213 #[iI r,iI i,.slice P t R]::ai .u8 (.slice P t R) data::ab y 166 #[iI r,iI i]::ab z 211 #[.pointer (some ⟨g,20,none⟩)]::ai .u8 (.slice A0 t c0) data::ak cx g j wr::L)):=H5;clear H5;have H7:=aa (H6.pk 6 [5,0,1,2,3]);clear H6;have l:=(H7.ah 4 rfl).cell 0;have E:=(H7.ah 3 rfl).cell 0;have T:=(H7.ah 3 rfl).cell 1
  go_wp2_with fail
  refine qH (Kf g j wr r i _ H7) λw6 X=>?_;clear H7 l E T;have l:=(X.ah 4 rfl).cell 0;have A:=(X.ah 1 rfl).cell 0;have B:=(X.ah 1 rfl).cell 1;have u:=(X.ah 1 rfl).cell 2;rcases jW (cF r i) j 0 with⟨Q,_⟩|⟨k,x,Q,hx,_⟩
  case' inr=>
   rw[xS]at Q;have EE:=aa (show li j wr r i=0 by unfold li;rw[Q,iP oM]);have EB:=aa (show mr j wr ⟨r,i,data⟩=j.eraseIdx k++[⟨r,i,data⟩]by unfold mr;simp only[Q];rw[iP oM,rE]);have HX:=aa hx;rw[Q];clear Q hx;have k0:(0:Int)<=(k:Int):=oM
   have k1:decide ((k:Int)≥0)=true:=dZ k0;have k2:decide ((0:Int)<=(k:Int))=true:=dZ k0
   go_wp2_with fail
   refine qK (Qh g j wr k x _ HX hl X) λw7 h9=>?_;clear X l A B u;obtain⟨q,U⟩:=nM ((j.eraseIdx k).length);obtain⟨a,G,B3,d3,D0,_,Y0,_,C0⟩:=h9.nI;obtain⟨m,hm⟩:=nM ((j.eraseIdx k++[x]).length);have S0:m=q+1:=by rw[hm,dB,U];rfl
   have T0:q<=1000000:=by
    have:=zdc j k;omega
   rw[<-hm]at C0 D0;have c:=C0.pk 7 [1,4,0,3,6,2];have D:=(c.swap.bC (R':=λO=>bV O [iI r,iI i,.slice P t R] ⟨r,i,data⟩) (λO hi=>⟨_,rfl,hi⟩)).swap;clear h9 C0 c;have P0:q<(j.eraseIdx k++[x]).length:=oM
   refine nK U hm S0 D0 λEQ HM A1 V0=>?_;have m0:(0:Int)<=(q:Int):=oM
   have m1:(q:Int)<(m:Int):=oM
   have m2:IntKind.i64.wrap ((m:Int)-1)=(q:Int):=by rw[IntWalk.i64_in _ oM];omega
   clear U hm S0 T0 D0;obtain⟨b3,rfl⟩:∃M0,a=some ⟨M0,0,none⟩:=by
    obtain⟨M0,hb,_⟩:=D.KL (k:=q) rfl P0;exact⟨M0,hb⟩
   have l:=(D.ah 4 rfl).cell 0;have A:=(D.ah 3 rfl).cell 0;have B:=(D.ah 3 rfl).cell 1;have u:=(D.ah 3 rfl).cell 2;have g0:=(D.ah 2 rfl).cell 20;refine bq D P0 λB0 R0=>?_;clear D P0
   go_wp2_with fail
   refine fP 12 kR kR (λW4 J=> ?_);have o:=aa (B0.drew);rw[<-J]at o;clear J B0 l A B u g0;have l:=(o.ah 4 rfl).cell 0;have A:=(o.ah 3 rfl).cell 0;have B:=(o.ah 3 rfl).cell 1;have u:=(o.ah 3 rfl).cell 2;have g0:=(o.ah 2 rfl).cell 20;simp only[IE,Hd,NC,Bg]
   repeat still_step
   try refine wpStill_nil ?_
   obtain⟨b4,e4,F⟩:=o.out.KL (k:=q) rfl R0;obtain rfl:b3=b4:=by injection e4 with e4;injection e4
   have U0:=sZ W4 b3 (q*3) (o.VR R0) r i P t R;refine Bs 213 rfl rfl rfl rfl U0 ?_;have Q0:=aa (F.pk 5 [1,0,4]);clear U0 F o l A B u g0;generalize World.setCells _ _ _ _=w8 at Q0⊢;simp only[Act.put]
   go_wp2_with fail
   go_ret
   refine⟨by rw[EE.out];try rfl,?_⟩;have e:(j.eraseIdx k++[x]).set q ⟨r,i,data⟩=j.eraseIdx k++[⟨r,i,data⟩]:=by
    rw[EQ.out,zdi _ _ (io _),Sm]
    rfl
   rw[EB.out,<-e];exact Q0.gV
  case' inl=>
   obtain⟨a,G,B3,d3,D0,_,Y0,_,C0⟩:=X.out.nI;obtain⟨n,hn⟩:=nM (j.length);rw[<-hn]at C0 D0;have c:=C0.pk 7 [1,6,0,2,3,4];clear X l A B u C0;have l:=(c.ah 1 rfl).cell 0;have g0:=(c.ah 2 rfl).cell 20;have A:=(c.ah 4 rfl).cell 0;have B:=(c.ah 4 rfl).cell 1;have u:=(c.ah 4 rfl).cell 2;refine iG c hn Q λF0 V HK=>?_;have C1:n<=1000000:=oM
   have V0:=aa D0;rw[Q];clear c hn Q hl D0;by_cases hs:6<=n
   ·have s0:decide ((n:Int)≥6)=true:=decide_eq_true (by omega)
    have s1:decide ((6:Int)<=(n:Int))=true:=decide_eq_true (by omega);have s2:(6:Int)<=(n:Int):=oM
    go_wp2_with fail
    refine qK (tH 161 (pO z) (rh wr) j a n G _ (enters_of func161 kR rfl) (λx v W _ J=>Uf g z wr a B3 n G wr.length d3 x v W J) F0) λw7 D=>?_;rcases jW (rh wr) j 0 with⟨H,_⟩|⟨k,x,H,hx,_⟩
    ·have EE:=aa (show li j wr r i=42 by unfold li;rw[HK.out,iN oM,iP ab8,H,iP oM])
     have EB:=aa (show mr j wr ⟨r,i,data⟩=j by unfold mr;simp only[HK.out,H];rw[iN oM,iP ab8,iP oM]);have B0:=aa (D.pk 6 [2,0,3]);clear D F0 l g0 A B u;rw[H];clear H
     go_wp2_with fail
     go_ret
     exact⟨by rw[EE.out];try rfl,by rw[EB.out];exact B0.gV⟩
    ·rw[xS]at H
     have EE:=aa (show li j wr r i=0 by unfold li;rw[HK.out,iN oM,iP ab8,H,iN oM]);have EB:=aa (show mr j wr ⟨r,i,data⟩=j.eraseIdx k++[⟨r,i,data⟩]by unfold mr;simp only[HK.out,H];rw[iN oM,iP ab8,iN oM,rE]);have O0:=(nQ.1 hx).1;rw[<-V.out]at O0;have W0:=aa (show k<j.length by rw[<-V.out];exact O0);have B0:=aa D;obtain⟨J0,N0⟩:=nM (k+1);have HJ:=aa N0;have jw:IntKind.i64.wrap ((k:Int)+1)=(J0:Int):=by rw[N0,IntWalk.i64_in _ oM];omega
     have k0:(0:Int)<=(k:Int):=oM
     have k1:¬(k:Int)<0:=oM
     have k2:decide ((k:Int)<0)=false:=dQ k1;clear D F0 l g0 A B u N0 O0 hx;rw[H];clear H
     go_wp2_with fail
     refine bT (λW=>W.cell? (aD z 0)=some (.pointer (some ⟨g,20,none⟩))/\W.cell? (aD g 20)=some (.slice a n G)) 9 (rG 8) [8,9,10,11] kR kR (λd=>by cases d<;>exact λ_ _ _ _ h=>h) (λW8 J=> ?_);have o:=aa (B0.drew);rw[<-J]at o;clear J B0;refine⟨⟨(o.ah 1 rfl).cell 0,(o.ah 2 rfl).cell 20⟩,?_⟩
     iterate 7 (refine bJ rfl rfl (λW J=>by(obtain⟨l,C⟩:=J;go_simp;try rfl)) ?_;simp only[aW])
     refine bJ (v:= iI J0) rfl rfl (λW J=>by(obtain⟨l,C⟩:=J;go_simp;first|done|(rw[jw];try rfl))) ?_;simp only[aW];refine take_nil ?_;refine fm (f:=162) (args:= #[.slice a n G,iI k,iI J0]) rfl rfl gS ?_;refine(Dp j a n G k J0 W8 HJ W0 o).mono ?_;rintro e w9⟨q,U,rfl,F⟩;refine⟨_,rfl,λ_=>⟨(F.ah 1 rfl).cell 0,(F.ah 2 rfl).cell 20⟩,?_⟩;simp only[aW];have C:=(F.ah 2 rfl).cell 20;have f:=(F.ah 2 rfl).frozen;have T0:q<=1000000:=oM
     have HQ:=aa U;have K:=(F.pk 6 [2,0,1,3,4,5]).bE 20 (.slice a q G);have L0:Hid (St I (w9.setCell ⟨g,20,none⟩ (.slice a q G)) (aB 213 3 bV (.slice a q G) (j.eraseIdx k)::ab z 211 #[.pointer (some ⟨g,20,none⟩)]::ab g 75 (cH cx (.slice a q G) (.slice B3 wr.length d3))::aB 213 3 bV (.slice B3 wr.length d3) wr::ab p 213 #[iI r,iI i,.slice P t R]::ai .u8 (.slice P t R) data::L)):=aa (K.pick 6 [1,2,0,3,4,5]);clear F K U o
     iterate 2 (refine bF rfl rfl gS nD ?_;simp only[aW])
     refine cE rfl rfl 67 _ _ (.pointer (some ⟨g,20,none⟩)) (.slice a q G) rfl rfl rfl gS nD ?_;simp only[Act.put];refine cD ?_;clear C f;generalize World.setCell _ _ _=w10 at L0⊢
     go_wp2_with fail
     refine bT (λW=>W.cell? (aD z 0)=some (.pointer (some ⟨g,20,none⟩))/\SP g p (.slice a q G) (iI r) (iI i) (.slice P t R) W) 8 (rG 6) [6,7,8,9,10] kR kR (λd=>by cases d<;>exact λ_ _ _ _ h=>h) (λW9 J=> ?_);have o:=aa (L0.drew);rw[<-J]at o;clear J L0;refine⟨⟨(o.ah 1 rfl).cell 0,jF o 2 4 rfl rfl⟩,?_⟩
     iterate 6 (refine bJ rfl rfl (λW J=>by(obtain⟨l,C,E,T,y2⟩:=J;go_simp;try rfl)) ?_;simp only[aW])
     refine take_nil ?_;obtain⟨X0,H0,I0,F⟩:=o.out.cu;have K:=F.alloc 213 #[iI r,iI i,.slice P t R];have N:=K.pk 8 [1,0,2,3,4,5,6,7];refine bY rfl rfl 67 1 0 _ (.agg #[iI r,iI i,.slice P t R]) rfl rfl (mQ _ _ _ _ _ _) (λ_=>⟨(N.ah 3 rfl).cell 0,jF N 4 6 rfl rfl⟩) ?_;simp only[aW];refine qb jx N rfl rfl _ _ rfl rfl (aO W9.heap.size) 1 1 rfl [iI r,iI i,.slice P t R] (uk (cs:=[iI r,iI i,.slice P t R]) (N.ah 1 rfl)) (sJ _ _ _ _ _) oM oM (λA4 c4 w9 Z=>⟨λ_=>⟨(Z.ah 3 rfl).cell 0,jF Z 4 6 rfl rfl⟩,?_⟩);simp only[aW];have G0:=Z.pk 8 [0,2,7,4,5];have b:=((G0.tW.bC (R':=λO=>bV O [iI r,iI i,.slice P t R] ⟨r,i,data⟩) (λO hi=>⟨_,rfl,hi⟩)).sX).fS H0 rfl I0;have C:=(b.ah 1 rfl).cell 20;have f:=(b.ah 1 rfl).frozen;have K0:=aa (b.swap.bE 20 (.slice A4 (q+1) c4));clear F K N Z G0 b H0 I0 o
     iterate 2 (refine bF rfl rfl gS nD ?_;simp only[aW])
     refine cE rfl rfl 67 _ _ (.pointer (some ⟨g,20,none⟩)) (.slice A4 (q+1) c4) rfl rfl rfl gS nD ?_;exact adX
   ·have s0:decide ((n:Int)≥6)=false:=decide_eq_false (by omega)
    have s1:decide ((6:Int)<=(n:Int))=false:=decide_eq_false (by omega);have s2:¬(6:Int)<=(n:Int):=oM
    have EE:=aa (show li j wr r i=0 by unfold li;rw[HK.out,iN oM,iN ab8]);have EB:=aa (show mr j wr ⟨r,i,data⟩=j++[⟨r,i,data⟩]by unfold mr;simp only[HK.out];rw[iN oM,iN ab8])
    go_wp2_with fail
    refine bT (λW=>W.cell? (aD z 0)=some (.pointer (some ⟨g,20,none⟩))/\SP g p (.slice a n G) (iI r) (iI i) (.slice P t R) W) 8 (rG 6) [6,7,8,9,10] kR kR (λd=>by cases d<;>exact λ_ _ _ _ h=>h) (λW8 J=> ?_);have o:=aa (F0.drew);rw[<-J]at o;clear J F0 l g0 A B u;refine⟨⟨(o.ah 1 rfl).cell 0,jF o 2 4 rfl rfl⟩,?_⟩
    iterate 6 (refine bJ rfl rfl (λW J=>by(obtain⟨l,C,E,T,y2⟩:=J;go_simp;try rfl)) ?_;simp only[aW])
    refine take_nil ?_;obtain⟨X0,H0,I0,F⟩:=o.out.cu;have K:=F.alloc 213 #[iI r,iI i,.slice P t R];have N:=K.pk 8 [1,0,2,3,4,5,6,7];refine bY rfl rfl 67 1 0 _ (.agg #[iI r,iI i,.slice P t R]) rfl rfl (mQ _ _ _ _ _ _) (λ_=>⟨(N.ah 3 rfl).cell 0,jF N 4 6 rfl rfl⟩) ?_;simp only[aW];refine qb jx N rfl rfl _ _ rfl rfl (aO W8.heap.size) 1 1 rfl [iI r,iI i,.slice P t R] (uk (cs:=[iI r,iI i,.slice P t R]) (N.ah 1 rfl)) (sJ _ _ _ _ _) oM oM (λA4 c4 w9 Z=>⟨λ_=>⟨(Z.ah 3 rfl).cell 0,jF Z 4 6 rfl rfl⟩,?_⟩);simp only[aW];have G0:=Z.pk 8 [0,2,7,4,5];have b:=((G0.tW.bC (R':=λO=>bV O [iI r,iI i,.slice P t R] ⟨r,i,data⟩) (λO hi=>⟨_,rfl,hi⟩)).sX).fS H0 rfl I0;have C:=(b.ah 1 rfl).cell 20;have f:=(b.ah 1 rfl).frozen;have K0:=aa (b.swap.bE 20 (.slice A4 (n+1) c4));clear F K N Z G0 b H0 I0 o
    iterate 2 (refine bF rfl rfl gS nD ?_;simp only[aW])
    refine cE rfl rfl 67 _ _ (.pointer (some ⟨g,20,none⟩)) (.slice A4 (n+1) c4) rfl rfl rfl gS nD ?_;exact adX
end
theorem jy{fn:Func}{t k:Nat}{ty:TypeId}{P:Program}{w:World}{v:Value}{a:Addr}(h:fn.results= #[.cell t ty,.tmp k])(b:Vq)(T:b.getD t undef= .pointer (some a))(F:(loadVar ty a).run P w= .ok v w):
 (results fn b).run P w= .ok (.tuple #[v,b.getD k undef]) w:=by
 exact adm
theorem yH{w:World}{n c:Nat}{i:Int}{d:LI}(h:ay w .u8 (.slice A n c) (i::d)):∃T,A=some T/\n=d.length+1/\n<=c/\c<=9223372036854775807/\w.cell? T=some (.int .u8 i):=by
 obtain⟨W,D,p,V⟩:=h.sl;have M:n=d.length+1:=by simpa using W
 obtain⟨T,u,rfl,_,_,y,J⟩:=V.at_ (k:=0) oM;obtain rfl:Value.int .u8 i=u:=by simpa using y
 exact⟨T,rfl,M,D,p,by simpa[Addr.add]using J⟩
theorem ay.Ss{w:World}{A X:OA}{n c:Nat}{i:Int}{d:LI}(h:ay w .u8 (.slice A n c) (i::d))(o:1<n->X=A.map (·.add 1)):ay w .u8 (.slice X (n-1) (c-1)) d:=by
 obtain⟨K,Z,G,M⟩:=h.sl;have F:d.length=n-1:=by simp at K;omega
 refine⟨X,c-1,by rw[F],by rw[F];omega,by unfold maxLen;omega,by rw[qI];omega,λP=> ?_⟩;rw[F]at P;obtain⟨T,e,U,B,D⟩:=M.2 oM;subst e;refine⟨T.add 1,by rw[o oM];rfl,trivial,by rw[fh];exact B,λj u y=> ?_⟩;rw[eF];refine D (1+j) u ?_;rw[YW];simpa using y
end Go.Proofs.YtblpaldggenbaaaGreatDoor
