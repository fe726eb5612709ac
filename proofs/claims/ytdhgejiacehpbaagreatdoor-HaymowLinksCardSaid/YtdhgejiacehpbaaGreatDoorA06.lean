import Derived.Test.YtdhgejiacehpbaaGreatDoorA05
import Derived.IntWalk
set_option maxRecDepth 100000
set_option maxHeartbeats 16000000
set_option linter.all false
namespace Go.Proofs.YtdhgejiacehpbaaGreatDoor
open Go.Proofs.Tryz
namespace ImW
open Go.RowKit Go.ChangeShapes Go.WideShapes Go.ChangeAt
open Im (Sl)
theorem kR (m:List Sl) (j:Nat) (hj:j<m.length):cR (m.getD j Sl.zero)=((ag m).drop (3*j)).take 3:=by
 rw[eE];have e:m.drop j=m.getD j Sl.zero::m.drop (j+1):=by rw[List.drop_eq_getElem_cons hj];congr 1;simp[List.getD,hj]
 rw[e];have:=dE (m.getD j Sl.zero::m.drop (j+1)) 1;show _=(ag _).take (3*1);rw[this];rfl
theorem BG {m:List Sl} {i:Int} (h:Im.aV m=false):Im.bZ m i=1:=by unfold Im.bZ;rw[h];rfl
theorem rL {m:List Sl} {i:Int} (h:Im.aV m=true) (h2:¬(1<=i/\i<=39)):Im.bZ m i=4:=by unfold Im.bZ Im.lQ;rw[h,decide_eq_false h2];rfl
theorem C_ {m:List Sl} {i:Int} (h:Im.aV m=true) (h2:1<=i) (h3:i<=39):Im.bZ m i=0:=by unfold Im.bZ Im.lQ;rw[h,decide_eq_true ⟨h2,h3⟩];rfl
theorem gW (m:List Sl) (i:Int) (w:World) (hm:m.length=40):
 Calls prog 161 #[eC m,i6 i] w λe w'=>e=.returned (i6 (Im.bZ m i:Nat))/\Bw w w':=by
 unfold eC;go_enter func161,ntmps161;go_upto_region 1 with(fail)
 have i0:=ak.new w 99 (ag m).toArray;have R:=(Below.refl w.heap.size w).alloc lh (.cells (ag m).toArray 99);change ak _ _ _ (ag m)at i0;generalize w.alloc (.cells (ag m).toArray 99)=w0 at*;generalize w.heap.size=g1 at i0|-;have U:=i0.range;go_wp2_with(refine aw 99 (.tmp 2) rfl rfl g1 0 rfl (ag m) _ U underlying99 rfl (ga _ hm) ?_)
 refine(uP m _ hm).mono ?_;rintro e w4 ⟨rfl,b4⟩;have J:=R.trans (b4.mono R.size);clear U i0 R b4;cases h:Im.aV m with
 |false=>have I:=ja (BG (i:=i) h);clear h;go_wp2;go_ret;exact⟨by rw[I.a];rfl,J⟩
 |true=>
  by_cases j:1<=i
  ·by_cases o:i<=39
   ·have I:=ja (C_ h j o);clear h;go_wp2;go_ret;exact⟨by rw[I.a];rfl,J⟩
   ·have I:=ja (rL (i:=i) h (λq=>o q.2));clear h;go_wp2;go_ret;exact⟨by rw[I.a];rfl,J⟩
  ·have I:=ja (rL (i:=i) h (λq=>j q.1));clear h;go_wp2;go_ret;exact⟨by rw[I.a];rfl,J⟩
def qy (m:List Sl) (n:Nat) (w:World) (e:Ending) (w':World):Prop:=e=.returned (.tuple #[eC m,i6 (n:Int)])/\Bw w w'
theorem qy.mk {m x:List Sl} {n k:Nat} {z:Int} {w w':World} (hm:m=x) (hn:n=k) (hz:z=k) (hb:Bw w w'):qy m n w (.returned (.tuple #[eC x,i6 z])) w':=by subst hm hn hz;exact⟨rfl,hb⟩
theorem yv {m:List Sl} {i:Int} {p:Int×Nat} (h:Im.bZ m i≠0):Im.lp m i p=Im.bZ m i/\Im.qx m i p=Im.zero:=by
 have e:Im.lp m i p=Im.bZ m i:=by unfold Im.lp;rw[if_neg h]
 exact⟨e,by unfold Im.qx;rw[e,if_neg h]⟩
theorem AQ {m:List Sl} {i:Int} {p:Int×Nat} (h:Im.bZ m i=0) (h2:¬(1<=p.1/\Nd.dj p=true)):Im.lp m i p=1/\Im.qx m i p=Im.zero:=by
 have e:Im.lp m i p=1:=by unfold Im.lp;rw[if_pos h,if_neg h2]
 exact⟨e,by unfold Im.qx;rw[e];rfl⟩
theorem tX {m:List Sl} {i:Int} {p:Int×Nat} (h:Im.bZ m i=0) (h2:1<=p.1) (h3:Nd.dj p=true):Im.lp m i p=0/\Im.qx m i p=m.set i.toNat ⟨p.1,p.2,(Im.at_ m i).v⟩:=by
 have e:Im.lp m i p=0:=by unfold Im.lp;rw[if_pos h,if_pos ⟨h2,h3⟩]
 exact⟨e,by unfold Im.qx;rw[e];rfl⟩
theorem wH {m:List Sl} {i:Int} (h:Im.bZ m i≠0):Im.dY m i=Im.bZ m i/\Im.mZ m i=Im.zero:=by
 have e:Im.dY m i=Im.bZ m i:=by unfold Im.dY;rw[if_neg h]
 exact⟨e,by unfold Im.mZ;rw[e,if_neg h]⟩
theorem Eb {m:List Sl} {i:Int} (h:Im.bZ m i=0) (h2:¬0<(Im.at_ m i).a):Im.dY m i=6/\Im.mZ m i=Im.zero:=by
 have e:Im.dY m i=6:=by unfold Im.dY;rw[if_pos h,if_neg h2]
 exact⟨e,by unfold Im.mZ;rw[e];rfl⟩
theorem CA {m:List Sl} {i:Int} (h:Im.bZ m i=0) (h2:0<(Im.at_ m i).a):Im.dY m i=0/\Im.mZ m i=m.set i.toNat ⟨0,0,(Im.at_ m i).v⟩:=by
 have e:Im.dY m i=0:=by unfold Im.dY;rw[if_pos h,if_pos h2]
 exact⟨e,by unfold Im.mZ;rw[e];rfl⟩
theorem wg {m:List Sl} {i:Int} (h:Im.bZ m i≠0):Im.eD m i=Im.bZ m i/\Im.dV m i=Im.zero:=by
 have e:Im.eD m i=Im.bZ m i:=by unfold Im.eD;rw[if_neg h]
 exact⟨e,by unfold Im.dV;rw[e,if_neg h]⟩
theorem Fw {m:List Sl} {i:Int} (h:Im.bZ m i=0) (h2: (Im.at_ m i).v=2147483647):Im.eD m i=19/\Im.dV m i=Im.zero:=by
 have e:Im.eD m i=19:=by unfold Im.eD;rw[if_pos h,if_pos h2]
 exact⟨e,by unfold Im.dV;rw[e];rfl⟩
theorem CH {m:List Sl} {i:Int} (h:Im.bZ m i=0) (h2: (Im.at_ m i).v≠2147483647):Im.eD m i=0/\Im.dV m i=m.set i.toNat ⟨(Im.at_ m i).a,(Im.at_ m i).s,(Im.at_ m i).v+1⟩:=by
 have e:Im.eD m i=0:=by unfold Im.eD;rw[if_pos h,if_neg h2]
 exact⟨e,by unfold Im.dV;rw[e];rfl⟩
theorem zG (cs:List Value) (o:Nat) (v:Value) (h:o+1<=cs.length):cs.set o v=mS cs o [v]:=by rw[<-ur cs o v [] (by simpa using h),GS]
theorem Iu (cs:List Value) (o:Nat) (u v:Value) (h:o+2<=cs.length): (cs.set o u).set (o+1) v=mS cs o [u,v]:=by rw[zG _ _ _ (by rw[List.length_set];omega),ur cs o u [v] (by simpa using h)]
theorem lO (m:List Sl) (n:Nat) (h:n<m.length): (ag m).drop (3*n)=cR (m.getD n Sl.zero)++ag (m.drop (n+1)):=by
 rw[eE];have e:m.drop n=m.getD n Sl.zero::m.drop (n+1):=by rw[List.drop_eq_getElem_cons h];congr 1;simp[List.getD,h]
 rw[e,bB];rfl
theorem Fe (m:List Sl) (n:Nat) (x:Sl) (h:n<m.length):m.set n x=m.take n++(x::m.drop (n+1)):=by rw[List.set_eq_take_append_cons_drop,if_pos h]
theorem ly (m:List Sl) (n:Nat) (a:Int) (s:Nat) (h:n<m.length): ((ag m).set (n*3) (i6 a)).set (n*3+1) (.int .u32 (s:Int))=ag (m.set n ⟨a,s,(m.getD n Sl.zero).v⟩):=by
 rw[Nat.mul_comm,Iu _ _ _ _ (by rw[au];omega)];unfold mS;have hd: (ag m).drop (3*n+2)=i6 (m.getD n Sl.zero).v::ag (m.drop (n+1)):=by rw[<-List.drop_drop,lO m n h];rfl
 rw[dE,Fe m n _ h,oH,bB];show _++([_,_]++(ag m).drop (3*n+2))=_;rw[hd];rfl
theorem kY (m:List Sl) (n:Nat) (v:Int) (h:n<m.length): (ag m).set (n*3+2) (i6 v)=ag (m.set n ⟨(m.getD n Sl.zero).a,(m.getD n Sl.zero).s,v⟩):=by
 rw[Nat.mul_comm,zG _ _ _ (by rw[au];omega)];unfold mS;have hd: (ag m).drop (3*n+2+1)=ag (m.drop (n+1)):=by rw[show 3*n+2+1=3*(n+1) by omega,eE]
 have I: (ag m).take (3*n+2)=ag (m.take n)++[i6 (m.getD n Sl.zero).a,.int .u32 ((m.getD n Sl.zero).s:Int)]:=by rw[List.take_add,dE,lO m n h];rfl
 rw[I,Fe m n _ h,oH,bB];show _++([_]++(ag m).drop (3*n+2+1))=_;rw[hd,List.append_assoc];rfl
theorem mR (m:List Sl) (n:Nat) (h:n<m.length): (ag m)[n*3]? =some (i6 (m.getD n Sl.zero).a)/\(ag m)[n*3+1]? =some (.int .u32 ((m.getD n Sl.zero).s:Int))/\(ag m)[n*3+2]? =some (i6 (m.getD n Sl.zero).v):=by rw[Nat.mul_comm];exact oN m n h
theorem mD (W:World): (zeroValue 99).run prog W=.ok (.agg (ag Im.zero).toArray) W:=by kernel_rfl
theorem xY (m:List Sl) (n:Nat):Im.at_ m (n:Int)=m.getD n Sl.zero:=by unfold Im.at_;rw[Int.toNat_natCast]
theorem sq (m:List Sl) (i:Int) (a:Int) (s:Nat) (w:World) (hm:m.length=40) (hE:Im.lp m i (a,s)=0):
 Calls prog 250 #[eC m,i6 i,.agg #[i6 a,.int .u32 (s:Int)]] w (qy (Im.qx m i (a,s)) (Im.lp m i (a,s)) w):=by
 have A5:=ja hE;clear hE;unfold eC;have A6:=mD;go_enter func250,ntmps250;go_upto_region 1 with(fail)
 have i0:=ak.new w 99 (ag m).toArray;have c0:=(Below.refl w.heap.size w).alloc lh (.cells (ag m).toArray 99);change ak _ _ _ (ag m)at i0;have R: (w.alloc (.cells (ag m).toArray 99)).heap.size=w.heap.size+1:=World.size_alloc _ _;generalize w.alloc (.cells (ag m).toArray 99)=w0 at*;obtain⟨g0,A7⟩:∃g,g=w.heap.size:=⟨_,rfl⟩;rw[<-A7]at i0 R|-;have p1:=ak.new w0 38 #[i6 a,.int .u32 (s:Int)];have i1:=i0.alloc (.cells #[i6 a,.int .u32 (s:Int)] 38);have c1:=c0.alloc c0.size (.cells #[i6 a,.int .u32 (s:Int)] 38);rw[R]at p1;have A8: (w0.alloc (.cells #[i6 a,.int .u32 (s:Int)] 38)).heap.size=g0+1+1:=by rw[World.size_alloc,R]
 generalize w0.alloc (.cells #[i6 a,.int .u32 (s:Int)] 38)=wp at*;clear R c0 i0;generalize hW:wp.alloc (.cells _ 99)=w1;have I:ak w1 wp.heap.size 99 (ag Im.zero):=by rw[<-hW];exact ak.new wp _ _
 have J:ak w1 g0 99 (ag m):=by rw[<-hW];exact i1.alloc _
 have kp:ak w1 (g0+1) 38 [i6 a,.int .u32 (s:Int)]:=by rw[<-hW];exact p1.alloc _
 have c2:Bw w w1:=by rw[<-hW];exact c1.alloc c1.size _
 rw[A8]at I;rw[show g0+1+1=g0+2 from rfl]at I;obtain⟨gr,A'⟩:∃g,g=g0+2:=⟨_,rfl⟩;rw[<-A']at I|-;have A9:w.heap.size<=gr:=by omega
 have AI:g0≠gr:=by omega
 have A0:w.heap.size<=g0:=by omega
 obtain⟨gp,A1⟩:∃g,g=g0+1:=⟨_,rfl⟩;rw[<-A1]at kp|-;have B':g0≠gp:=by omega
 clear A1 p1;clear hW i1 c1 A8 A' A7 A6;have hr:=J.range;go_wp2_with(refine aw 99 (.tmp 3) rfl rfl g0 0 rfl (ag m) _ hr underlying99 rfl (ga _ hm) ?_)
 refine(gW m i _ hm).mono ?_;rintro e w4 ⟨rfl,b4⟩;have AR:=J.ext b4;have Aa:=I.ext b4;have Ab:=kp.ext b4;have U:=c2.trans (b4.mono c2.size);clear hr J I c2 b4 kp;have J:=AR;have I:=Aa;have kp:=Ab;clear AR Aa Ab;by_cases hq:Im.bZ m i=0
 ·rw[hq];have HQ:=ja hq;have Au:=Im.eU hq;obtain⟨n,rfl⟩:=Int.eq_ofNat_of_zero_le (show 0<=i by omega);have B0:1<=n:=(by omega);have B1:n<=39:=(by omega);have Ad:=mR m n om;have Ae:=λa s=>ly m n a s om;have Ah:=λv=>kY m n v om;have Ao:=kR m n om;have Aq:=xY m n;have A2:=Im.jP (Im.pU (Im.eU hq).1 hm n om);generalize m.getD n Sl.zero=y at*;have Av:=ja Ad;have Aw:=ja Ae;have B2:=ja Ah;have B3:=ja Ao;have Ax:=ja Aq;have B4:=ja (And.intro A2.2.2.2.1 A2.2.2.2.2);clear A2;clear hq Au Ad Ae Ah Ao Aq;rw[show(((0:Nat)):Int)=0 from rfl];have x0:=kp.cell 0;have x1:=kp.cell 1;simp only[List.getElem?_cons_zero,List.getElem?_cons_succ]at x0 x1;by_cases ha:1<=a
  ·(go_wp2_with fail);refine(Am a s _).mono ?_;rintro e w5 ⟨rfl,b5⟩;have Ar:=J.ext b5;have As:=I.ext b5;have A3:=kp.ext b5;have c5:=U.trans (b5.mono U.size);clear x0 x1 J I kp U b5;have J:=Ar;have I:=As;have U:=c5;have x0:=A3.cell 0;have x1:=A3.cell 1;simp only[List.getElem?_cons_zero,List.getElem?_cons_succ]at x0 x1;clear Ar As A3 c5;cases hp:Nd.dj (a,s)with
   |false=>have HE:=ja (AQ (m:=m) (i:=(n:Int)) (p:=(a,s)) HQ.a (λq=>by rw[hp]at q;cases q.2));clear hp;have A6:=mD;(go_wp2_with(refine wpList_store_mid rfl 99 (.tmp 6) (.tmp 24) rfl gr 0 (ag Im.zero).toArray rfl rfl (I.there 0 _ (by rw[List.size_toArray,au];decide)) (ga _ rfl) (all_oneCell_toArray cj) ?_));have hz:=I.setCells (ag Im.zero) 0 (by rw[au];decide);rw[ck _ _ rfl]at hz;have bz:=aS (o:=0) (vs:=ag Im.zero) U A9;refine bodyPost_ret (v:=.tuple #[eC Im.zero,i6 1]) (bG (ag Im.zero) _ results250 rfl hz.range underlying99 rfl (ga _ rfl) rfl) rfl ?_;exact qy.mk HE.a.2 HE.a.1 rfl bz
   |true=>have HE:=ja (tX (m:=m) (i:=(n:Int)) (p:=(a,s)) HQ.a ha hp);clear hp;have y0:=J.cell (n*3);have y1:=J.cell (n*3+1);have ca:=Av.a;rw[ca.1]at y0;rw[ca.2.1]at y1;have f0:=J.frozen (n*3);have f1:=J.frozen (n*3+1);clear ca;(go_upto_region 7 with(fail));have k1:=(J.aC (n*3) (i6 a)).aC (n*3+1) (.int .u32 (s:Int));rw[Aw.a]at k1;have r1:=(I.cf (p:=ae g0 (n*3)) (Ne.symm AI) (i6 a)).cf (p:=ae g0 (n*3+1)) (Ne.symm AI) (.int .u32 (s:Int));have d1:=(U.setCell (p:=ae g0 (n*3)) A0 (i6 a)).setCell (p:=ae g0 (n*3+1)) A0 (.int .u32 (s:Int));generalize(w5.setCell (ae g0 (n*3)) (i6 a)).setCell (ae g0 (n*3+1)) (.int .u32 (s:Int))=w6 at*;clear y0 y1 f0 f1 x0 x1 J I U;have J:=k1;have I:=r1;have U:=d1;clear k1 r1 d1;have HX:=ja (HE.a.2.trans (show m.set ((n:Int)).toNat ⟨a,s,(Im.at_ m (n:Int)).v⟩=m.set n ⟨a,s,y.v⟩ by rw[Ax.a,Int.toNat_natCast]));have j:=ja (show(m.set n ⟨a,s,y.v⟩).length=40 by rw[List.length_set];exact hm);generalize m.set n ⟨a,s,y.v⟩=X at*;have A4:=ja (ga X j.a);have hr:=J.range;(go_wp2_with(first|refine aw 99 (.tmp 3) rfl rfl g0 0 rfl (ag X) _ hr underlying99 rfl A4.a ?_|refine wpList_store_mid rfl 99 (.tmp 6) (.tmp 29) rfl gr 0 (ag X).toArray rfl rfl (I.there 0 _ (by rw[List.size_toArray,au,au,j.a];decide)) A4.a (all_oneCell_toArray cj) ?_));have hz:=I.setCells (ag X) 0 (by rw[au,au,j.a];decide);rw[ck _ _ (by rw[au,au,j.a];rfl)]at hz;have bz:=aS (o:=0) (vs:=ag X) U A9;refine bodyPost_ret (v:=.tuple #[eC X,i6 0]) (bG (ag X) _ results250 rfl hz.range underlying99 rfl A4.a rfl) rfl ?_;exact qy.mk HX.a HE.a.1 rfl bz
  ·exact absurd ((AQ (m:=m) (i:=(n:Int)) (p:=(a,s)) HQ.a (λq=>ha q.1)).1.symm.trans A5.a) (by decide)
 ·exact absurd ((yv (m:=m) (i:=i) (p:=(a,s)) hq).1.symm.trans A5.a) hq
theorem tR (m:List Sl) (i:Int) (w:World) (hm:m.length=40) (hE:Im.dY m i≠0):
 Calls prog 133 #[eC m,i6 i] w (qy (Im.mZ m i) (Im.dY m i) w):=by
 have Ao:=ja hE;clear hE;unfold eC;have A':=mD;go_enter func133,ntmps133;go_upto_region 1 with(fail)
 have i0:=ak.new w 99 (ag m).toArray;have c0:=(Below.refl w.heap.size w).alloc lh (.cells (ag m).toArray 99);change ak _ _ _ (ag m)at i0;have R: (w.alloc (.cells (ag m).toArray 99)).heap.size=w.heap.size+1:=World.size_alloc _ _;generalize w.alloc (.cells (ag m).toArray 99)=w0 at*;obtain⟨g0,A2⟩:∃g,g=w.heap.size:=⟨_,rfl⟩;rw[<-A2]at i0 R|-;have i1:=i0;have c1:=c0;obtain⟨wp,A3⟩:∃wp,wp=w0:=⟨_,rfl⟩;rw[<-A3]at i1 c1 R|-;have A4:=R;clear R c0 i0 A3;generalize hW:wp.alloc (.cells _ 99)=w1;have J:ak w1 wp.heap.size 99 (ag Im.zero):=by rw[<-hW];exact ak.new wp _ _
 have I:ak w1 g0 99 (ag m):=by rw[<-hW];exact i1.alloc _
 have c2:Bw w w1:=by rw[<-hW];exact c1.alloc c1.size _
 rw[A4]at J;obtain⟨gr,j⟩:∃g,g=g0+1:=⟨_,rfl⟩;rw[<-j]at J|-;have A5:w.heap.size<=gr:=by omega
 have Au:g0≠gr:=by omega
 have As:w.heap.size<=g0:=by omega
 clear hW i1 c1 A4 j A2 A';have hr:=I.range;go_wp2_with(refine aw 99 (.tmp 2) rfl rfl g0 0 rfl (ag m) _ hr underlying99 rfl (ga _ hm) ?_)
 refine(gW m i _ hm).mono ?_;rintro e w4 ⟨rfl,b4⟩;have A6:=I.ext b4;have A7:=J.ext b4;have c4:=c2.trans (b4.mono c2.size);clear hr I J c2 b4;have I:=A6;have J:=A7;clear A6 A7;by_cases hq:Im.bZ m i=0
 ·rw[hq];have HQ:=ja hq;have Aq:=Im.eU hq;obtain⟨n,rfl⟩:=Int.eq_ofNat_of_zero_le (show 0<=i by omega);have Av:1<=n:=(by omega);have Aw:n<=39:=(by omega);have A8:=mR m n om;have A9:=λa s=>ly m n a s om;have AI:=λv=>kY m n v om;have AR:=kR m n om;have Aa:=xY m n;have A0:=Im.jP (Im.pU (Im.eU hq).1 hm n om);generalize m.getD n Sl.zero=y at*;have Ab:=ja A8;have Ax:=ja A9;have B':=ja AI;have Ar:=ja AR;have Ad:=ja Aa;have B0:=ja (And.intro A0.2.2.2.1 A0.2.2.2.2);clear A0;clear hq Aq A8 A9 AI AR Aa;rw[show(((0:Nat)):Int)=0 from rfl];have y0:=I.cell (n*3);have y1:=I.cell (n*3+1);have y2:=I.cell (n*3+2);have U:=Ab.a;rw[U.1]at y0;rw[U.2.1]at y1;rw[U.2.2]at y2;have f0:=I.frozen (n*3);have f1:=I.frozen (n*3+1);clear U;have hr:=I.bF (n*3) (cR y) (by rw[Ar.a,Nat.mul_comm,List.length_take,List.length_drop,au,hm];congr 1;omega);(go_wp2_with(refine aw 97 (.tmp 15) rfl rfl g0 (n*3) rfl (cR y) _ hr underlying97 rfl (pE _) ?_));refine(xd y _).mono ?_;rintro e w5 ⟨rfl,b5⟩;have Ae:=I.ext b5;have Ah:=J.ext b5;have c5:=c4.trans (b5.mono c4.size);clear hr y0 y1 y2 f0 f1 I J c4 b5;have I:=Ae;have J:=Ah;have c4:=c5;clear Ae Ah c5;have y0:=I.cell (n*3);have y1:=I.cell (n*3+1);have y2:=I.cell (n*3+2);have U:=Ab.a;rw[U.1]at y0;rw[U.2.1]at y1;rw[U.2.2]at y2;have f0:=I.frozen (n*3);have f1:=I.frozen (n*3+1);clear U;by_cases ha:0<y.a
  ·exact absurd (CA (m:=m) (i:=(n:Int)) HQ.a (by rw[Ad.a];exact ha)).1 Ao.a
  ·have HE:=ja (Eb (m:=m) (i:=(n:Int)) HQ.a (by rw[Ad.a];exact ha));rw[decide_eq_false ha];have A':=mD;(go_wp2_with(refine wpList_store_mid rfl 99 (.tmp 4) (.tmp 19) rfl gr 0 (ag Im.zero).toArray rfl rfl (J.there 0 _ (by rw[List.size_toArray,au];decide)) (ga _ rfl) (all_oneCell_toArray cj) ?_));have hz:=J.setCells (ag Im.zero) 0 (by rw[au];decide);rw[ck _ _ rfl]at hz;have bz:=aS (o:=0) (vs:=ag Im.zero) c4 A5;refine bodyPost_ret (v:=.tuple #[eC Im.zero,i6 6]) (bG (ag Im.zero) _ results133 rfl hz.range underlying99 rfl (ga _ rfl) rfl) rfl ?_;exact qy.mk HE.a.2 HE.a.1 rfl bz
 ·have HE:=ja (wH (m:=m) (i:=i) hq);obtain⟨q,A1⟩:∃q,q=Im.bZ m i:=⟨_,rfl⟩;rw[<-A1]at hq|-;have HQ:=ja A1;have B1: ((q:Int) != 0)=true:=(by rw[bne_iff_ne];omega);clear hq A1;have A':=mD;(go_wp2_with(refine wpList_store_mid rfl 99 (.tmp 4) (.tmp 12) rfl gr 0 (ag Im.zero).toArray rfl rfl (J.there 0 _ (by rw[List.size_toArray,au];decide)) (ga _ rfl) (all_oneCell_toArray cj) ?_));have hz:=J.setCells (ag Im.zero) 0 (by rw[au];decide);rw[ck _ _ rfl]at hz;have bz:=aS (o:=0) (vs:=ag Im.zero) c4 A5;refine bodyPost_ret (v:=.tuple #[eC Im.zero,i6 (q:Int)]) (bG (ag Im.zero) _ results133 rfl hz.range underlying99 rfl (ga _ rfl) rfl) rfl ?_;exact qy.mk HE.a.2 (HE.a.1.trans HQ.a.symm) rfl bz
theorem FY (m:List Sl) (i:Int) (w:World) (hm:m.length=40) (hE:Im.eD m i=0):
 Calls prog 114 #[eC m,i6 i] w (qy (Im.dV m i) (Im.eD m i) w):=by
 have A2:=ja hE;clear hE;unfold eC;have Ae:=mD;go_enter func114,ntmps114;go_upto_region 1 with(fail)
 have i0:=ak.new w 99 (ag m).toArray;have c0:=(Below.refl w.heap.size w).alloc lh (.cells (ag m).toArray 99);change ak _ _ _ (ag m)at i0;have R: (w.alloc (.cells (ag m).toArray 99)).heap.size=w.heap.size+1:=World.size_alloc _ _;generalize w.alloc (.cells (ag m).toArray 99)=w0 at*;obtain⟨g0,A3⟩:∃g,g=w.heap.size:=⟨_,rfl⟩;rw[<-A3]at i0 R|-;have i1:=i0;have c1:=c0;obtain⟨wp,A4⟩:∃wp,wp=w0:=⟨_,rfl⟩;rw[<-A4]at i1 c1 R|-;have A5:=R;clear R c0 i0 A4;generalize hW:wp.alloc (.cells _ 99)=w1;have I:ak w1 wp.heap.size 99 (ag Im.zero):=by rw[<-hW];exact ak.new wp _ _
 have J:ak w1 g0 99 (ag m):=by rw[<-hW];exact i1.alloc _
 have c2:Bw w w1:=by rw[<-hW];exact c1.alloc c1.size _
 rw[A5]at I;obtain⟨gr,j⟩:∃g,g=g0+1:=⟨_,rfl⟩;rw[<-j]at I|-;have Ah:w.heap.size<=gr:=by omega
 have Ao:g0≠gr:=by omega
 have A6:w.heap.size<=g0:=by omega
 clear hW i1 c1 A5 j A3 Ae;have hr:=J.range;go_wp2_with(refine aw 99 (.tmp 2) rfl rfl g0 0 rfl (ag m) _ hr underlying99 rfl (ga _ hm) ?_)
 refine(gW m i _ hm).mono ?_;rintro e w4 ⟨rfl,b4⟩;have A7:=J.ext b4;have A8:=I.ext b4;have c4:=c2.trans (b4.mono c2.size);clear hr J I c2 b4;have J:=A7;have I:=A8;clear A7 A8;by_cases hq:Im.bZ m i=0
 ·rw[hq];have HQ:=ja hq;have Aq:=Im.eU hq;obtain⟨n,rfl⟩:=Int.eq_ofNat_of_zero_le (show 0<=i by omega);have Au:1<=n:=(by omega);have Av:n<=39:=(by omega);have A9:=mR m n om;have AI:=λa s=>ly m n a s om;have AR:=λv=>kY m n v om;have Aa:=kR m n om;have Ab:=xY m n;have A':=Im.jP (Im.pU (Im.eU hq).1 hm n om);generalize m.getD n Sl.zero=y at*;have Ar:=ja A9;have Aw:=ja AI;have As:=ja AR;have Ax:=ja Aa;have A0:=ja Ab;have Ad:=ja (And.intro A'.2.2.2.1 A'.2.2.2.2);clear A';clear hq Aq A9 AI AR Aa Ab;rw[show(((0:Nat)):Int)=0 from rfl];have y2:=J.cell (n*3+2);have ca:=Ar.a;rw[ca.2.2]at y2;have f2:=J.frozen (n*3+2);clear ca;have B':=Ad.a.1;have B0:=Ad.a.2;by_cases ha:y.v=2147483647
  ·exact absurd ((Fw (m:=m) (i:=(n:Int)) HQ.a (by rw[A0.a];exact ha)).1.symm.trans A2.a) (by decide)
  ·have HE:=ja (CH (m:=m) (i:=(n:Int)) HQ.a (by rw[A0.a];exact ha));have B1: (y.v==2147483647)=false:=(by rw[beq_eq_false_iff_ne];exact ha);clear ha;(go_upto_region 7 with(fail));have k1:=J.aC (n*3+2) (i6 (y.v+1));rw[As.a]at k1;have r1:=I.cf (p:=ae g0 (n*3+2)) (Ne.symm Ao) (i6 (y.v+1));have d1:=c4.setCell (p:=ae g0 (n*3+2)) A6 (i6 (y.v+1));generalize w4.setCell (ae g0 (n*3+2)) (i6 (y.v+1))=w6 at*;clear y2 f2 J I c4;have J:=k1;have I:=r1;have c4:=d1;clear k1 r1 d1;have HX:=ja (HE.a.2.trans (show m.set ((n:Int)).toNat ⟨(Im.at_ m (n:Int)).a,(Im.at_ m (n:Int)).s,(Im.at_ m (n:Int)).v+1⟩=m.set n ⟨y.a,y.s,y.v+1⟩ by rw[A0.a,Int.toNat_natCast]));have U:=ja (show(m.set n ⟨y.a,y.s,y.v+1⟩).length=40 by rw[List.length_set];exact hm);generalize m.set n ⟨y.a,y.s,y.v+1⟩=X at*;have A1:=ja (ga X U.a);have hr:=J.range;(go_wp2_with(first|refine aw 99 (.tmp 2) rfl rfl g0 0 rfl (ag X) _ hr underlying99 rfl A1.a ?_|refine wpList_store_mid rfl 99 (.tmp 4) (.tmp 27) rfl gr 0 (ag X).toArray rfl rfl (I.there 0 _ (by rw[List.size_toArray,au,au,U.a];decide)) A1.a (all_oneCell_toArray cj) ?_));have hz:=I.setCells (ag X) 0 (by rw[au,au,U.a];decide);rw[ck _ _ (by rw[au,au,U.a];rfl)]at hz;have bz:=aS (o:=0) (vs:=ag X) c4 Ah;refine bodyPost_ret (v:=.tuple #[eC X,i6 0]) (bG (ag X) _ results114 rfl hz.range underlying99 rfl A1.a rfl) rfl ?_;exact qy.mk HX.a HE.a.1 rfl bz
 ·exact absurd ((wg (m:=m) (i:=i) hq).1.symm.trans A2.a) hq
end ImW
namespace Co
open Go.RowKit
section
variable {w w':World} {c:C} {fs:List Fi}
def Fi.new (g l1 l2 l3 l4 l5:Nat) (x:X) (age:Int):Fi:=⟨g,l1,l2,l3,l4,l5,0,0,x.ty,x.ar,x.bN,x.tick,none,age,[],[]⟩
def EE (w:World) (x:X) (age:Int) (e:Ending) (w':World):Prop:=
 ∃g l1 l2 l3 l4 l5,e=.returned (pt g 0)/\ak w' g 155 (Fi.new g l1 l2 l3 l4 l5 x age).cells/\ay w' prog 3 l1 []/\ay w' prog 3 l2 []/\ay w' prog 3 l3 []/\ay w' prog 3 l4 []/\ay w' prog 3 l5 []/\
  (w.heap.size<=l1/\l1<l2/\l2<l3/\l3<l4/\l4<l5/\l5<g/\g<w'.heap.size)/\Below w.heap.size w w'
theorem xM (x:X): (prog.info? 41).map (·.size)=some x.cells.length:=vV
theorem ya (ty ar bN tick:Int) (age:Int) (g l1 l2 l3 l4 l5:Nat) (W:World):
 (Instr.build 155 #[(1,.agg (X.cells ⟨ty,ar,bN,0,tick⟩).toArray),(8,.pointer none),(9,i6 age),(2,.map (some l1)),(3,.map (some l2)),(4,.map (some l3)),(5,.map (some l4)),(6,.map (some l5))]).run prog W=.ok (.agg (Fi.new g l1 l2 l3 l4 l5 ⟨ty,ar,bN,0,tick⟩ age).cells.toArray) W:=by
 kernel_rfl
theorem Bi (ty ar bN tick:Int) (age:Int) (w:World):
 Calls prog 115 #[.agg (X.cells ⟨ty,ar,bN,0,tick⟩).toArray,.pointer none,i6 age] w (EE w ⟨ty,ar,bN,0,tick⟩ age):=by
 have hb:=λl1 l2 U j l5 W=>ya ty ar bN tick age 0 l1 l2 U j l5 W;have A2:=@run_makeMap prog;have o:=xM ⟨ty,ar,bN,0,tick⟩;obtain⟨R,hR⟩:∃R:Nat->Nat->Nat->Nat->Nat->List Value,R=λl1 l2 U j l5=>(Fi.new 0 l1 l2 U j l5 ⟨ty,ar,bN,0,tick⟩ age).cells:=⟨_,rfl⟩;have A':∀l1 l2 U j l5 W,(Instr.build 155 #[(1,.agg (X.cells ⟨ty,ar,bN,0,tick⟩).toArray),(8,.pointer none),(9,i6 age),(2,.map (some l1)),(3,.map (some l2)),(4,.map (some U)),(5,.map (some j)),(6,.map (some l5))]).run prog W=.ok (.agg (R l1 l2 U j l5).toArray) W:=λl1 l2 U j l5 W=>by rw[hR];exact hb l1 l2 U j l5 W
 have HR:=ja hR;clear hb hR;generalize X.cells ⟨ty,ar,bN,0,tick⟩=xs at A' o|-;have A0:=ja o;clear o;go_enter func115,ntmps115;go_upto_region 1 with fail
 have hr: (w.alloc (.cells xs.toArray 41)).rangeAt w.heap.size 0 xs:=(ak.new w 41 xs.toArray).range;have HB:=ja A';clear A';go_wp2_with(first|refine aw 41 (.tmp 3) rfl rfl w.heap.size 0 rfl xs _ hr underlying41 rfl A0.a ?_|(refine wpList_build rfl 155 [(1,.tmp 8),(8,.tmp 9),(9,.tmp 10),(2,.tmp 11),(3,.tmp 12),(4,.tmp 13),(5,.tmp 14),(6,.tmp 15)] rfl (r:=?r) ?h1 ?_;case h1=>exact HB.a _ _ _ _ _ _))
 go_ret;have A1:=HR.a;subst A1;have m1:=ay.made (w.alloc (.cells xs.toArray 41)) prog 3;obtain⟨I,J⟩:=ex (w.alloc (.cells xs.toArray 41));have s0:I.heap.size=w.heap.size+1:=by rw[<-J];simp
 have b0:Below w.heap.size w I:=by rw[<-J];exact bh.alloc lh _
 rw[J];clear J hr m1;obtain⟨n,hn⟩:=ex w.heap.size;rw[hn]at s0 b0|-;have a1:=ay.made I prog 3;rw[s0]at a1;have s1: (I.alloc (.map #[] 0)).heap.size=n+1+1:=by simp[s0]
 have a2:=ay.made (I.alloc (.map #[] 0)) prog 3;rw[s1]at a2;have s2: ((I.alloc (.map #[] 0)).alloc (.map #[] 0)).heap.size=n+1+1+1:=by simp[s0]
 have a3:=ay.made ((I.alloc (.map #[] 0)).alloc (.map #[] 0)) prog 3;rw[s2]at a3;have s3: (((I.alloc (.map #[] 0)).alloc (.map #[] 0)).alloc (.map #[] 0)).heap.size=n+1+1+1+1:=by simp[s0]
 have a4:=ay.made (((I.alloc (.map #[] 0)).alloc (.map #[] 0)).alloc (.map #[] 0)) prog 3;rw[s3]at a4;have s4: ((((I.alloc (.map #[] 0)).alloc (.map #[] 0)).alloc (.map #[] 0)).alloc (.map #[] 0)).heap.size=n+1+1+1+1+1:=by simp[s0]
 have a5:=ay.made ((((I.alloc (.map #[] 0)).alloc (.map #[] 0)).alloc (.map #[] 0)).alloc (.map #[] 0)) prog 3;rw[s4]at a5;have s5: (((((I.alloc (.map #[] 0)).alloc (.map #[] 0)).alloc (.map #[] 0)).alloc (.map #[] 0)).alloc (.map #[] 0)).heap.size=n+1+1+1+1+1+1:=by simp[s0]
 have a6:=ak.new (((((I.alloc (.map #[] 0)).alloc (.map #[] 0)).alloc (.map #[] 0)).alloc (.map #[] 0)).alloc (.map #[] 0)) 155 (Fi.new 0 (n+1) (n+1+1) (n+1+1+1) (n+1+1+1+1) (n+1+1+1+1+1) ⟨ty,ar,bN,0,tick⟩ age).cells.toArray;rw[s5]at a6;have hle:n<=I.heap.size:=by omega
 refine⟨n+1+1+1+1+1+1,n+1,n+1+1,n+1+1+1,n+1+1+1+1,n+1+1+1+1+1,rfl,a6,((((a1.alloc _).alloc _).alloc _).alloc _).alloc _,(((a2.alloc _).alloc _).alloc _).alloc _,((a3.alloc _).alloc _).alloc _,(a4.alloc _).alloc _,a5.alloc _,⟨?_,?_,?_,?_,?_,?_,?_⟩,?_⟩;all_goals try omega
 ·rw[World.size_alloc,s5];omega
 ·rw[hn];exact(((((b0.alloc om _).alloc (by rw[s1];omega) _).alloc (by rw[s2];omega) _).alloc (by rw[s3];omega) _).alloc (by rw[s4];omega) _).alloc (by rw[s5];omega) _
end
end Co
namespace Co
open Go.RowKit
open Im (Sl)
open ImW
section
variable {w w':World} {c:C} {fs:List Fi}
theorem bD.KL (h:bD w c fs) {l:KV} (ht:af (· =c.gone) w w') (hm:ay w' prog 3 c.gone l):bD w' {c with b_:=l} fs/\Step w c w' {c with b_:=l}:=by
 have I:∀{b:Nat},c.own b≠3->b≠c.gone:=λJ e=>J (e▸h.o3);refine⟨{
  core:=ht.blk h.core (I (by rw[h.o1];decide))
  len:=⟨h.len.aF,h.len.av,h.len.maps,h.len.used,h.len.dH,h.len.dG⟩
  files:=ht.map h.files (I (by rw[h.o2];decide))
  gone:=hm
  aB:=ht.map h.aB (I (by rw[h.o4];decide))
  bad:=ht.map h.bad (I (by rw[h.ob];decide))
  o1:=h.o1
  o2:=h.o2
  o3:=h.o3
  o4:=h.o4
  ob:=h.ob
  hi:=λb R=>h.hi b (Nat.le_trans ht.size R)
  fi:=λi f U=>(h.fi i f U).bU ht (λb e _=>by rw[e,h.o3];exact⟨by decide,by omega⟩) (λ_ _=>rfl)
  aU:=⟨(ht.fe h.aU.1 lh λg j=>I (by rw[(h.aU.2 g j).1];decide)).more ht.size,λb hb2=>⟨(h.aU.2 b hb2).1,Nat.lt_of_lt_of_le (h.aU.2 b hb2).2 ht.size⟩⟩
  gl:=h.gl.bU ht (λb e _=>by rw[e,h.o3];decide) (λ_ _=>rfl)
  gM:=h.gM},⟨ht.mono λb e=>by rw[e,h.o3];decide,λ_ _=>rfl⟩⟩
def fG (c:C) (B i g l1 l2 l3 l4 l5:Nat):Nat->Nat:=λb=>if b<B then c.own b else if b=g then 10*(i+1)else if b=l1 then 10*(i+1)+1 else if b=l2 then 10*(i+1)+2 else if b=l3 then 10*(i+1)+3 else if b=l4 then 10*(i+1)+4 else if b=l5 then 10*(i+1)+5 else 0
theorem bD.add (h:bD w c fs) {q w5:World} {ty ar bN tick age:Int} {g l1 l2 l3 l4 l5:Nat} (hq:Bw w q) (hb:ak q g 155 (Fi.new g l1 l2 l3 l4 l5 ⟨ty,ar,bN,0,tick⟩ age).cells)
 (m1:ay q prog 3 l1 []) (m2:ay q prog 3 l2 []) (m3:ay q prog 3 l3 []) (m4:ay q prog 3 l4 []) (m5:ay q prog 3 l5 [])
 (ho:w.heap.size<=l1/\l1<l2/\l2<l3/\l3<l4/\l4<l5/\l5<g/\g<q.heap.size) (m:ay w5 prog 3 c.files (dk (kC fs) (fs.length+1:Nat) (pt g 0))) (t:q.mapTurned w5 c.files) (hl:fs.length<39):
 ∃own,bD w5 {c with own:=own} (fs++[Fi.new g l1 l2 l3 l4 l5 ⟨ty,ar,bN,0,tick⟩ age])/\Step w c w5 {c with own:=own}:=by
 have A':=h.files.lt;have J:af (· =c.files) q w5:=af.bt t.grown (λ_ e=>(Option.some.inj e).symm);have U:af (· =c.files) w w5:=(af.aj (X:=(· =c.files)) hq).trans J (λ_ e=>.inl e);have I:∀b,b<w.heap.size->fG c w.heap.size fs.length g l1 l2 l3 l4 l5 b=c.own b:=λb hb=>if_pos hb;have hs:=J.size;obtain⟨h1,h2,h3,h4,h5,h6,h7⟩:=ho;refine⟨fG c w.heap.size fs.length g l1 l2 l3 l4 l5,h.qv U (λb hb _=>.inl hb) rfl I ?_ ?_ ?_ (by rw[List.length_append];show fs.length+1<=40;omega),⟨U.mono λb e=>by rw[e,h.o2];decide,I⟩⟩
 ·intro b hb;show fG c w.heap.size fs.length g l1 l2 l3 l4 l5 b=0;unfold fG;rw[if_neg om,if_neg om,if_neg om,if_neg om,if_neg om,if_neg om,if_neg om]
 ·have e:=tE fs fs.length (Fi.new g l1 l2 l3 l4 l5 ⟨ty,ar,bN,0,tick⟩ age) lh ((fs.length+1:Nat):Int) om;rw[if_neg om]at e;rw[<-e];exact m
 ·intro j f R;by_cases o:j<fs.length
  ·rw[List.getElem?_append_left o]at R;exact(h.fi j f R).bU U (λb e _=>by rw[e,h.o2];exact⟨by decide,by omega⟩) I
  ·obtain rfl:j=fs.length:=(by have:=(List.getElem?_eq_some_iff.1 R).1;rw[List.length_append,List.length_singleton]at this;omega);rw[List.getElem?_append_right lh,Nat.sub_self]at R;injection R with R;subst R;exact{
    blk:=J.blk hb (show g≠c.files by omega)
    cA:=J.map m1 (show l1≠c.files by omega)
    fresh:=J.map m2 (show l2≠c.files by omega)
    bA:=J.map m3 (show l3≠c.files by omega)
    lost:=J.map m4 (show l4≠c.files by omega)
    nodes:=J.map m5 (show l5≠c.files by omega)
    o0:=by show fG c w.heap.size fs.length g l1 l2 l3 l4 l5 g=_;unfold fG;rw[if_neg om,if_pos rfl]
    o1:=by show fG c w.heap.size fs.length g l1 l2 l3 l4 l5 l1=_;unfold fG;rw[if_neg om,if_neg om,if_pos rfl]
    o2:=by show fG c w.heap.size fs.length g l1 l2 l3 l4 l5 l2=_;unfold fG;rw[if_neg om,if_neg om,if_neg om,if_pos rfl]
    o3:=by show fG c w.heap.size fs.length g l1 l2 l3 l4 l5 l3=_;unfold fG;rw[if_neg om,if_neg om,if_neg om,if_neg om,if_pos rfl]
    o4:=by show fG c w.heap.size fs.length g l1 l2 l3 l4 l5 l4=_;unfold fG;rw[if_neg om,if_neg om,if_neg om,if_neg om,if_neg om,if_pos rfl]
    o5:=by show fG c w.heap.size fs.length g l1 l2 l3 l4 l5 l5=_;unfold fG;rw[if_neg om,if_neg om,if_neg om,if_neg om,if_neg om,if_neg om,if_pos rfl]
    cU:=λp hp=>by cases hp
    jW:=λn v hv=>by cases hv
    ok:=⟨Nat.zero_le _,λj _=>by simp[Fi.new]⟩}
theorem Fj (fs:List Fi) (i:Nat):bK (kC fs) ((i:Int)+1)=(fs[i]?).map (λf=>pt f.g 0):=j7 fs i
def iJ (w0:World) (x:X) (age:Int) (u:Value) (q:World):Prop:=
 ∃g l1 l2 l3 l4 l5,u=pt g 0/\ak q g 155 (Fi.new g l1 l2 l3 l4 l5 x age).cells/\ay q prog 3 l1 []/\ay q prog 3 l2 []/\ay q prog 3 l3 []/\ay q prog 3 l4 []/\ay q prog 3 l5 []/\
  (w0.heap.size<=l1/\l1<l2/\l2<l3/\l3<l4/\l4<l5/\l5<g/\g<q.heap.size)
theorem iJ.ext {w0 q q':World} {x:X} {age:Int} {u:Value} (h:iJ w0 x age u q) (hb:Bw q q'):iJ w0 x age u q':=by obtain⟨g,l1,l2,I,J,l5,e,R,U,j,o,h4,h5,o1,o2,o3,o4,o5,o6,o7⟩:=h;exact⟨g,l1,l2,I,J,l5,e,R.ext hb,U.ext hb,j.ext hb,o.ext hb,h4.ext hb,h5.ext hb,o1,o2,o3,o4,o5,o6,Nat.lt_of_lt_of_le o7 hb.size⟩
theorem iJ.of {w0 q q':World} {x:X} {age:Int} {e:Ending} (h:EE q x age e q') (hs:w0.heap.size<=q.heap.size):∃u,e=.returned u/\iJ w0 x age u q'/\Bw q q':=by obtain⟨g,l1,l2,I,J,l5,e,R,U,j,o,h4,h5,⟨o1,o2,o3,o4,o5,o6,o7⟩,hb⟩:=h;exact⟨_,e,⟨g,l1,l2,I,J,l5,rfl,R,U,j,o,h4,h5,by omega,o2,o3,o4,o5,o6,o7⟩,hb⟩
structure Made (c:C) (fs:List Fi) (m:List Sl) (typ:Int) (c':C) (f:Fi):Prop where
 c':c'={c with aF:=ag (Im.dV m (fs.length+1:Nat)),av:=c.av.set (fs.length+1) (i6 c.tick),b_:=bf c.b_ (fs.length+1:Nat),own:=c'.own}
 ty:f.ty=typ
 ar:f.ar=0
 tick:f.tick=c.tick
 cU:f.cU=none
 vs:f.vs=[]
 d:f.d=[]
 age:f.age=c.age
 bN:f.bN=((Im.dV m (fs.length+1:Nat)).getD (fs.length+1) Sl.zero).v
def qo (w:World) (c:C) (fs:List Fi) (m:List Sl) (typ:Int) (e:Ending) (w':World):Prop:=∃c' f,e=.returned (.tuple #[i6 (fs.length+1:Nat),i6 0])/\Made c fs m typ c' f/\bD w' c' (fs++[f])/\Step w c w' c'
theorem oZ (m:List Sl) (h:m.length=40): (prog.info? 99).map (·.size)=some (ag m).length:=by rw[au,h];kernel_rfl
theorem MF {a b c:Prop} {p:Prop} (h:a\/(b/\c)) (h1:a->p) (h2:b->c->p):p:=h.elim h1 (λh=>h2 h.1 h.2)
theorem iF (h:bD w c fs) (m:List Sl) (hm:m.length=40) (hs:c.aF=ag m) (typ:Int) (ht:typ=1\/typ=2) (hl:fs.length<30) (hg:Im.eD m (fs.length+1:Nat)=0):
 Calls prog 61 #[pt c.g 0,i6 typ] w (qo w c fs m typ):=by
 have c1:w.cell? (ae c.g 178)=some (.map (some c.k.bad)):=(h.cell _).trans (nR h.len);have c2:w.cell? (ae c.g 6)=some (.map (some c.files)):=(h.cell _).trans (cg h.len);have E8:=h.bad.len underlying101 3;have H:=ja h;have HS:=ja hs;have HM:=ja hm;have HG:=ja hg;clear h hs hm hg;go_enter func61,ntmps61;have BO: ((typ != 1)=false)\/((typ != 1)=true/\(typ != 2)=false):=by
  rcases ht with rfl|rfl
  ·exact .inl rfl
  ·exact .inr ⟨rfl,rfl⟩
 have HT:=ja ht;clear ht;refine MF BO (λq1=>?_) (λq1 q2=>?_);all_goals
  go_wp2;(go_loop [6,28] (λv u=>∃k:Nat,k<=fs.length/\v=i6 ((k:Int)+1)) (λv _=>fs.length+1-(intOf v).toNat));case atStart=>exact⟨0,Nat.zero_le _,rfl⟩
  case round=>
   obtain⟨k,hk,rfl⟩:=hrel;have A':=cC ((k:Int)+1) om om;have l2:=H.a.files.look az underlying95 (tj _) _ A';rw[Fj]at l2;by_cases Ae:k<fs.length
   ·rw[List.getElem?_eq_getElem Ae]at l2;simp only[Option.map_some,Option.getD_some]at l2;clear A';go_wp2;go_round;case rel=>exact⟨k+1,by omega,by go_num⟩
    case measure=>exact ms
   ·obtain rfl:k=fs.length:=(by omega);rw[List.getElem?_eq_none lh]at l2;simp only[Option.map_none,Option.getD_none]at l2;obtain⟨n,hn⟩:∃n:Nat,n=fs.length+1:=⟨_,rfl⟩;have Ah: (fs.length:Int)+1=(n:Int):=(by omega);have n0: (1:Int)<=(n:Int):=(by omega);have n1: (n:Int)<=39:=(by omega);have E9:decide ((39:Int)<(n:Int))=false:=decide_eq_false om;rw[Ah]at l2 A'|-;have A5:=ja hn;have Ao:=ja A';clear Ae hk hn Ah A';have A0:w.rangeAt c.g 7 (ag m):=by rw[<-HS.a];exact H.a.core.bF 7 _ (by rw[H.a.len.aF];exact qZ H.a.len)
    (go_wp2_with(first|refine aw 99 (.tmp 37) rfl rfl c.g 7 rfl (ag m) _ A0 underlying99 rfl (oZ m HM.a) ?_));refine(FY m (n:Int) w HM.a (by rw[A5.a];exact HG.a)).mono ?_;rintro e w1 ⟨rfl,b1⟩;have A9:Im.eD m (n:Int)=0:=(by rw[A5.a];exact HG.a);have Aq: (Im.dV m (n:Int)).length=40:=(by unfold Im.dV;rw[if_pos A9,List.length_set];exact HM.a);rw[A9];have Ar:=ja (H.a.below b1);have B1:=ja b1;have J:=ja Aq;unfold eC;obtain⟨I,AI⟩:∃I,I=Im.dV m (n:Int):=⟨_,rfl⟩;rw[<-AI]at J|-;have AR:=ja AI;clear A9 Aq b1 AI A0 l2 c1 c2;have As: (ag I).length<=zeroCells99.size:=(by rw[au,J.a];exact Nat.le_refl 120);(go_upto_region 11 with(with_reducible refine bE rfl 99 (.tmp 7) (.tmp 41) rfl (ag I) rfl rfl As rfl (oZ I J.a) cj ?_));obtain⟨z,hz,ka,sa,ba⟩:∃z:List Value,z.length=120/\ak (w1.alloc (.cells zeroCells99 99)) w1.heap.size 99 z/\(w1.alloc (.cells zeroCells99 99)).heap.size=w1.heap.size+1/\Bw w1 (w1.alloc (.cells zeroCells99 99)):=⟨_,rfl,ak.new w1 _ _,by simp,bh.alloc lh _⟩;generalize w1.alloc (.cells zeroCells99 99)=wa at ka sa ba|-;obtain⟨g7,Aa⟩:=ex w1.heap.size;have Au:w1.heap.size<=g7:=(by omega);rw[Aa]at ka|-;have kb:=ka.setCells (ag I) 0 (by rw[hz,au,J.a];decide);rw[ck z (ag I) (by rw[hz,au,J.a])]at kb;have bb:=aS ba Au 0 (ag I);generalize wa.setCells g7 0 (ag I)=w2 at kb bb|-;have A1:=ja (Ar.a.below bb);have B2:=ja (B1.a.trans (bb.mono B1.a.size));have K2:=ja kb;have BQ:¬c.g=g7:=λe=>(by have:=Ar.a.core.lt;omega);have EC:=ja Aa;have A0:=kb.range;have hL:=A1.a.len;have Av:=A1.a.core.there 7 (ag I).length (by rw[eu hL,au,J.a];decide);clear ka sa ba hz Au Aa kb bb As;(go_upto_region 14 with(first|refine aw 99 (.tmp 7) rfl rfl g7 0 rfl (ag I) _ A0 underlying99 rfl (oZ I J.a) ?_|(with_reducible refine cM rfl 99 (.tmp 50) (.tmp 47) rfl c.g 7 (ag I) rfl rfl Av (oZ I J.a) cj ?_)));have T2:=af.setCells w2 c.g 7 (ag I);have R:bD (w2.setCells c.g 7 (ag I)) {c with aF:=ag I} fs:=A1.a.pI T2
     (by rw[<-rq hL (ag I) (by rw[au,J.a])];exact A1.a.core.setCells (ag I) 7 (by rw[eu hL,au,J.a];decide))
     ⟨by rw[au,J.a],hL.av,hL.maps,hL.used,hL.dH,hL.dG⟩ rfl rfl rfl rfl rfl rfl rfl rfl rfl rfl
    have k7:=T2.blk K2.a (λe=>BQ e.symm);have S3:Step w c (w2.setCells c.g 7 (ag I)) {c with aF:=ag I}:=(Step.below B2.a c).trans (A1.a.step T2 rfl);generalize w2.setCells c.g 7 (ag I)=w3 at R k7 S3|-;simp only[Act.put];have d0:w3.cell? (ae c.g 6)=some (.map (some c.files)):=(R.cell _).trans (cg R.len);have d1:w3.cell? (ae c.g 179)=some (i6 c.tick):=(R.cell _).trans (fY R.len);have d2:w3.cell? (ae c.g 194)=some (i6 c.age):=(R.cell _).trans (gF R.len);have d3:w3.cell? (ae g7 (n*3+2))=some (i6 (I.getD n Sl.zero).v):=(by rw[Nat.mul_comm];exact(k7.cell _).trans (oN I n (by rw[J.a];omega)).2.2);have Ab:=R.core.lt;have Bg:=k7.lt;have A7:=ja R;have A2:n<40:=(by omega);have E4: (n:Int)<40:=(by omega);obtain⟨bN,A3⟩:=ex ((I.getD n Sl.zero).v);rw[A3]at d3;have HV:=ja A3;have Bt:=ja S3;clear T2 K2 Av A0 hL k7 R S3 A3;have A4:Bw w3 w3.drew:=bh.drew;refine aQ 22 21 [(ez (pt c.g 0)),(ez (pt c.g 0)),(ez (pt c.g 6)),(ez (pt c.g 6)),(ez (.map (some c.files))),(ez (i6 (n:Int))),(ez (i6 typ)),(ez (i6 (n:Int))),(ez (pt g7 (n*3))),(ez (pt g7 (n*3+2))),(ez (i6 bN)),(ez (pt c.g 0)),(ez (pt c.g 0)),(ez (pt c.g 179)),(ez (i6 c.tick)),(ez (.agg (X.cells ⟨typ,0,bN,0,c.tick⟩).toArray)),(ez (pt c.g 0)),(ez (pt c.g 0)),(ez (pt c.g 194)),(ez (i6 c.age)),(λu q=>iJ w3 ⟨typ,0,bN,0,c.tick⟩ c.age u q)]
     (λq=>Bw w3 q) kj rfl dc kj kj ?_ ?_ ?_ ?_
    ·exact A4
    ·exact⟨ah _,ah _,ah _,ah _,ah _,ah _,ah _,ah _,ah _,ah _,ah _,ah _,ah _,ah _,ah _,ah _,ah _,ah _,ah _,ah _,λ_ _ _ h hb=>h.ext hb,trivial⟩
    ·refine⟨rz [] [0],rz [0,51] [],rz [1,52] [],rz [2,53] [],rx [3,54] [] λx hG=>cl hG Ab d0,rz [] [6],rz [] [1],rz [] [6],rz [7,58] [7],rz [8,59] [],rx [9,60] [] λx hG=>cl hG Bg d3,rz [] [0],rz [11,62] [],rz [12,63] [],rx [13,64] [] λx hG=>cl hG Ab d1,?_,rz [] [0],rz [16,67] [],rz [17,68] [],rx [18,69] [] λx hG=>cl hG Ab d2,?_,trivial⟩
     ·intro a x hG hd hs K hK;have Bu:a.tmps.getD 57 undef=i6 typ:=hd 6 57 kj;have E5:=aA Bu;have By:a.tmps.getD 61 undef=i6 bN:=hd 10 61 kj;have E6:=aA By;have C4:a.tmps.getD 65 undef=i6 c.tick:=hd 14 65 kj;have E7:=aA C4;clear hd hs;refine pj ?_;go_simp;exact hK _ _ rfl hG bh
     ·intro a x hG hd hs K hK;have EK:_=_:=hd 15 66 kj;have EX:_=_:=hd 19 70 kj;clear hd hs;refine pj ?_;go_simp;refine(Bi typ 0 bN c.tick c.age x).mono ?_;rintro e w' hf;obtain⟨u,rfl,CC,Aw⟩:=iJ.of hf hG.size;exact hK _ _ CC (hG.trans (Aw.mono hG.size)) Aw
    ·intro x hG;(iterate 20 rintro _ rfl);rintro v20 Ax;simp only[ap];rw[show List.range' 21 (22-21)=[21]from rfl,wpOps_cons];obtain⟨g,l1,l2,l3,l4,l5,rfl,B',y1,y2,y3,y4,y5,Ad⟩:=Ax;obtain⟨w5,A8,B0,B3⟩:=ay.store (A7.a.files.ext hG) az underlying95 (by rw[jZ,aq];omega) (n:Int) Ao.a (pt g 0);refine pj ?_;go_simp;unfold wpOps;simp only[Exit.then];have B4:=bD.add A7.a hG B' y1 y2 y3 y4 y5 Ad (by rw[<-A5.a];exact B0) B3 om;obtain⟨own,j,S5⟩:=B4;have Cd:=ja (Bt.a.trans S5);have F':=ja Ad;clear B0 B3 A8 B' y1 y2 y3 y4 y5 Ad hG A4 d0 d1 d2 d3 S5;generalize A6:Fi.new g l1 l2 l3 l4 l5 ⟨typ,0,bN,0,c.tick⟩ c.age=fi at j;have Co:=ja A6;clear A6;have d1:w5.cell? (ae c.g 179)=some (i6 c.tick):=(j.cell _).trans (fY j.len);have D0:c.g<w5.heap.size:=j.core.lt;have B5:=ja j;clear j;have A4:Bw w5 w5.drew:=bh.drew;(go_upto_region 15 with fail);refine aQ 11 10 [(ez (pt c.g 0)),(ez (i6 (n:Int))),(ez (pt c.g 0)),(ez (pt c.g 0)),(ez (pt c.g 179)),(ez (i6 c.tick)),(ez (pt c.g 0)),(ez (pt c.g 6)),(ez (pt c.g 127)),(ez (pt c.g (127+n)))]
      (λq=>Bw w5 q) kj rfl dc kj kj ?_ ?_ ?_ ?_
     ·exact A4
     ·exact sv
     ·refine⟨rz [] [0],rz [] [6],rz [] [0],rz [2,74] [],rz [3,75] [],rx [4,76] [] λx hG=>cl hG D0 d1,rz [0,72] [],rz [6,78] [],rz [7,79] [],rz [8,80,1,73] [],trivial⟩
     ·intro x hG;(iterate 10 rintro _ rfl);simp only[ap];rw[show List.range' 10 (11-10)=[10]from rfl,wpOps_cons];have o:=B5.a.below hG;have d2:x.cell? (ae c.g (127+n))=c.av[n]? :=(o.cell _).trans (fO o.len n A2);obtain⟨tv,B6⟩:∃tv,c.av[n]? =some tv:=⟨_,List.getElem?_eq_getElem (by rw[H.a.len.av];exact A2)⟩;rw[B6]at d2;have d3:x.frozen? (ae c.g (127+n))=false:=o.core.frozen _;refine pj ?_;go_simp;unfold wpOps;simp only[Exit.then];have U:=o.p_ n A2 (i6 c.tick);have S7:=(Cd.a.trans (Step.below hG _)).trans (o.step (af.setCell x c.g (127+n) (i6 c.tick)) (c':={c with aF:=ag I,own:=own,av:=c.av.set n (i6 c.tick)}) rfl);replace U:bD (x.setCell (ae c.g (127+n)) (i6 c.tick)) {c with aF:=ag I,own:=own,av:=c.av.set n (i6 c.tick)} (fs++[fi]):=U;generalize x.setCell (ae c.g (127+n)) (i6 c.tick)=w7 at U S7|-;have d4:w7.cell? (ae c.g 167)=some (.map (some c.gone)):=(U.cell _).trans (jq U.len);have B7:ay w7 prog 3 c.gone c.b_:=U.gone;obtain⟨w8,A8,B8,B9⟩:=ay.drop B7 az underlying101 (n:Int) Ao.a 0;have D3:=ja B8;have D5:=ja B9;have BB:=ja U;have Dv:=ja S7;clear o U S7 B7 B8 B9 d1 d2 d3 hG A4 B6;go_wp2;go_ret2;obtain⟨E1,S9⟩:=BB.a.KL (af.bt D5.a.grown (λ_ e=>(Option.some.inj e).symm)) D3.a;have en:=A5.a;have A6:=Co.a;subst A6;refine⟨_,_,?_,?_,E1,Dv.a.trans S9⟩
      ·rw[<-en];rfl
      ·rw[en]at AR|-;exact⟨by rw[AR.a],rfl,rfl,rfl,rfl,rfl,rfl,rfl,by rw[<-AR.a,<-en];exact HV.a.symm⟩
end
end Co
namespace Sq
open Go.RowKit
open Co (af.setCell)
section
variable {w:World}
theorem ia {P:Program} {g:Nat} {t:TypeId} {fn:Func} {tmps:Array Value} {a b d:Nat} {v u:Value} (cs:List Value) (D:TypeDesc) (hf:fn.results=#[.cell a t,.tmp b,.tmp d]) (ha:tmps.getD a undef=pt g 0) (hc:w.rangeAt g 0 cs)
 (hu:P.underlying t=some D) (hd:D.isRow=true) (hi: (P.info? t).map (·.size)=some cs.length) (hb:tmps.getD b undef=v) (hd2:tmps.getD d undef=u):
 (results fn tmps).run P w=.ok (.tuple #[.agg cs.toArray,v,u]) w:=by
 have I:=run_loadVar_mid (P:=P) w g 0 t cs D hc hu hd hi;rw[Array.getD_eq_getD_getElem?]at ha hb hd2;unfold results;rw[hf];simp[ha,hb,hd2,I,asAddr]
theorem mz: (prog.info? 158).map (·.size)=some 2:=by kernel_rfl
def N6 (w:World) (size:Nat) (nls:List (Nat×List UInt8)) (wr:List Int) (e:Ending) (w':World):Prop:=∃u qs v,e=.returned (.tuple #[.agg #[i6 (size:Int),u],v,i6 0])/\qs.map nl=nls/\Own w.heap.size w' qs/\fj w' w'.heap.size u qs/\Is .i64 w' w'.heap.size v wr/\Bw w w'/\(∀b,u.ownBlock=some b->w.heap.size<=b/\b<w'.heap.size)/\∀b,v.ownBlock=some b->w.heap.size<=b/\b<w'.heap.size
theorem cE {w w':World} {X:Nat->Prop} {base e sz n:Nat} {v:Value} {xs:List Value} (h:w.ownsRow base e sz v n xs) (ht:af X w w') (hX:∀b,v.ownBlock=some b->¬X b):w'.ownsRow base e sz v n xs:=by
 obtain⟨R,I⟩:=h;refine⟨R,?_⟩;rcases I with I|⟨g,cap,cur,J,a2,a3,a4⟩
 ·exact .inl I
 ·refine .inr ⟨g,cap,cur,J,a2,?_,a4⟩;rw[ht.block g (Array.getElem?_eq_some_iff.1 a3).1 (hX g (by rw[J];rfl))];exact a3
def fX (w0:World) (ps:List Pc) (u:Value) (q:World):Prop:=∃qs,qs.map nl=ps.map nl/\Own w0.heap.size q qs/\q.ownsRow w0.heap.size 225 2 u qs.length (aZ qs)
theorem fX.ext {w0 q q':World} {ps:List Pc} {u:Value} (h:fX w0 ps u q) (hb:Bw q q'):fX w0 ps u q':=by obtain⟨qs,I,J,R⟩:=h;exact⟨qs,I,J.ext hb,aD R hb⟩
theorem Own.base {B B':Nat} {w:World} {qs:List Pc} (h:Own B w qs) (hB:B'<=B):Own B' w qs:=λq I=>by obtain⟨g,J,R,U,j⟩:=h q I;exact⟨g,J,R,Nat.le_trans hB U,j⟩
theorem jF {w:World} {B B' e sz n:Nat} {v:Value} {xs:List Value} (h:w.ownsRow B e sz v n xs) (hB:B'<=B):w.ownsRow B' e sz v n xs:=by
 obtain⟨J,I⟩:=h;refine⟨J,?_⟩;rcases I with I|⟨g,cap,cur,R,a2,a3⟩
 ·exact .inl I
 ·exact .inr ⟨g,cap,cur,R,Nat.le_trans hB a2,a3⟩
theorem fX.slice {w0 q:World} {ps:List Pc} {u:Value} (h:fX w0 ps u q):∃A c n,u=.slice A n c:=by
 obtain⟨qs,_,_,h⟩:=h;rcases h.2 with⟨I,_⟩|⟨R,J,cur,I,_⟩
 ·exact⟨_,_,_,I⟩
 ·exact⟨_,_,_,I⟩
theorem fX.of {w0 q q':World} {ps:List Pc} {e:Ending} (h:qo q ps e q') (hs:w0.heap.size<=q.heap.size):∃u,e=.returned u/\fX w0 ps u q'/\Bw q q':=by obtain⟨u,qs,I,J,R,U,j⟩:=h;exact⟨u,I,⟨qs,J,R.base hs,jF U hs⟩,j⟩
theorem xJ (v:Value) (size:Nat) (ps:List Pc) (vb:Value) (w:World) (h:fj w w.heap.size v ps) (hv:Vd size ps) (hl:ps.length<=100000) (hb:Bs w w.heap.size vb []):
 Calls prog 73 #[.agg #[i6 (size:Int),v],i6 0,vb] w (N6 w size (ps.map nl) []):=by
 obtain⟨Ab,cb,rfl,Aq,Ar,_⟩:=hb.open_;obtain⟨A,c,rfl,hc,hm,R⟩:=h.open_;have H:=ja h;have HV:=ja hv;clear h hv R hb;go_enter func73,ntmps73;go_upto_region 1 with fail
 generalize hW: (w.alloc (.cells _ 158)).alloc (.cells _ 158)=w0;have k3:ak w0 w.heap.size 158 [i6 (size:Int),.slice A ps.length c]:=by rw[<-hW];exact(ak.new w _ _).alloc _
 have k6:ak w0 (w.heap.size+1) 158 [i6 0,.slice none 0 0]:=by rw[<-hW];have:=ak.new (w.alloc (.cells #[i6 (size:Int),.slice A ps.length c] 158)) 158 #[i6 0,.slice none 0 0];rw[World.size_alloc]at this;exact this
 have U:Bw w w0:=by rw[<-hW];exact(bh.alloc lh _).alloc sj _
 clear hW;obtain⟨g,hg⟩:=ex w.heap.size;have As:w.heap.size<=g:=by omega
 rw[hg]at k3 k6|-;have HG:=ja hg;clear hg;have AI:w0.cell? (ae g 0)=some (i6 (size:Int)):=k3.cell 0;have AR:w0.cell? (ae g 1)=some (.slice A ps.length c):=k3.cell 1;go_wp2_with fail
 refine(cP _ size ps w0 (H.a.up U) HV.a hl).mono ?_;rintro e I ⟨rfl,b1⟩;replace k3:=k3.ext b1;replace k6:=k6.ext b1;have H1:=ja ((H.a.up U).up b1);replace U:=U.trans (b1.mono U.size);have A4:=k3.lt;have d0:I.cell? (ae g 0)=some (i6 (size:Int)):=k3.cell 0;have d1:I.cell? (ae g 1)=some (.slice A ps.length c):=k3.cell 1;have B0:=ja U;have K6:=ja k6;clear b1 k3 k6 U AI AR;go_upto_region 6 with fail
 have A5:Bw I I.drew:=bh.drew;refine aQ 9 6 [(ez (pt g 0)),(ez (i6 (size:Int))),(ez (pt g 1)),(ez (.slice A ps.length c)),(λu q=>fX I ps u q),(λu q=>∃y,u=.agg #[i6 (size:Int),y]/\fX I ps y q)]
  (λq=>Bw I q) kj rfl dc kj kj ?_ ?_ ?_ ?_
 ·exact A5
 ·exact⟨ah _,ah _,ah _,ah _,λ_ _ _ h hb=>h.ext hb,λ_ _ _ ⟨y,h1,h2⟩ hb=>⟨y,h1,h2.ext hb⟩,trivial⟩
 ·refine⟨rz [] [3],rx [0,40] [] λx hG=>cl hG A4 d0,rz [] [3],rx [2,42] [] λx hG=>cl hG A4 d1,?_,?_,trivial⟩
  ·intro a x hG hd hs K hK;have Au:_=_:=hd 3 43 kj;clear hd hs;refine pj ?_;go_simp;refine(oR _ ps _ (H1.a.up hG) hl).mono ?_;rintro e w' hn;obtain⟨u,rfl,J,A6⟩:=fX.of hn hG.size;exact hK _ _ J (hG.trans (A6.mono hG.size)) A6
  ·intro a x hG hd hs K hK;have Aa:_=_:=hd 1 41 kj;have Ao:=aA Aa;have j:=hd 4 44 kj;clear hd hs;refine pj ?_;obtain⟨uu,A7⟩:=ex (a.tmps.getD 44 undef);rw[A7]at j;obtain⟨o,c',n',rfl⟩:=j.slice;have Av:=aA A7;go_simp;exact hK _ _ ⟨_,rfl,j⟩ hG bh
 ·intro x hG;rintro _ rfl _ rfl _ rfl _ rfl v4 Ad v5 Ae;simp only[ap];rw[show List.range' 6 (9-6)=[6,7,8]from rfl,wpOps_cons];obtain⟨y,rfl,qs,A0,A1,A2⟩:=Ae;obtain⟨o,c',n',rfl⟩:=fX.slice ⟨qs,A0,A1,A2⟩;have kk:=K6.a.ext hG;have x0:=kk.cell 0;have x1:=kk.cell 1;have xf:=kk.frozen;have HF:=ja (⟨A0,A1,A2,kk⟩:qs.map nl=ps.map nl/\Own I.heap.size x qs/\x.ownsRow I.heap.size 225 2 (.slice o n' c') qs.length (aZ qs)/\ak x (g+1) 158 [i6 0,.slice none 0 0]);have Ah:=ja hG;clear A0 A1 A2 kk hG A5 d0 d1 Ad;refine pj ?_;go_simp;rw[wpOps_cons];refine pj ?_;go_simp;rw[wpOps_cons];refine pj ?_;go_simp;unfold wpOps;simp only[Exit.then];go_wp2;obtain⟨q1,q2,q3,q4⟩:=HF.a;have z2:=(q4.aC 0 (i6 (size:Int))).aC 1 (.slice o n' c');refine bodyPost_ret (v:=.tuple #[.agg #[i6 (size:Int),.slice o n' c'],.slice none 0 0,i6 0]) (ia [i6 (size:Int),.slice o n' c'] _ results73 rfl z2.range underlying158 rfl mz rfl rfl) rfl ?_;have A8:=B0.a;have hle:w.heap.size<=I.heap.size:=A8.size;have J:∀p:Nat,p=g+1->w.heap.size<=p:=λp hp=>(by omega);have T:=(af.setCell x (g+1) 0 (i6 (size:Int))).trans (af.setCell _ (g+1) 1 (.slice o n' c')) (λ_ h=>.inl h);have A9:Own I.heap.size ((x.setCell (ae (g+1) 0) (i6 (size:Int))).setCell (ae (g+1) 1) (.slice o n' c')) qs:=λq hq=>(by obtain⟨g9,h1,h2,h3,h4⟩:=q2 q hq;have:=K6.a.lt;exact⟨g9,h1,T.blk h2 om,h3,h4⟩);have A3:=cE q3 T (λb hb=>by have:=(q3.lt b hb).1;have:=K6.a.lt;omega);exact⟨_,qs,_,rfl,q1,A9.base hle,A9.JF A3,bw.fp _ _ _,((A8.trans (Ah.a.mono hle)).setCell (p:=ae (g+1) 0) (J _ rfl) _).setCell (p:=ae (g+1) 1) (J _ rfl) _,λb hb=>⟨Nat.le_trans hle (A3.lt b hb).1,(A3.lt b hb).2⟩,λb hb=>by cases hb⟩
end
end Sq
namespace Sq
open Go.RowKit
open Co (af.setCell)
section
variable {w:World}
theorem cI: (prog.info? 3).map (λi=>(i.zero,i.size,i.bytes))=some (some (i6 0),1,8):=by kernel_rfl
def Oh (w:World) (d:List UInt8) (k:Nat) (e:Ending) (w':World):Prop:=∃A c bl ol,e=.returned (.tuple #[.slice A ol.length c,.bool bl])/\Bs w' w'.heap.size (.slice A ol.length c) ol/\ol.length<=128/\(∀j,d.length<=128*k+j->(Pk.pad 128 ol).getD j 0=0)/\Bw w w'
theorem GH (v:Value) (ps:List Pc) (sz:Int) (d:List UInt8) (k:Nat) (w:World) (hc:fj w w.heap.size v ps) (hp:ps.length<=1) (hz:∀p∈ps,∀j,d.length<=128*p.n+j->p.l.getD j 0=0):
 Calls prog 128 #[.agg #[i6 sz,v],i6 (k:Int)] w (Oh w d k):=by
 have I:ps.Pairwise λp q=>p.n<q.n:=by
  match ps,hp with
  |[],_=>exact List.Pairwise.nil
  |[p],_=>exact List.pairwise_singleton _ _
 by_cases hh:∃i,∃hi:i<ps.length,ps[i].n=k
 ·obtain⟨i,hi,J⟩:=hh;refine(qT v ps sz k _ rfl w hc I om i hi J).mono ?_;rintro e w' ⟨rfl,R⟩;obtain⟨U,o⟩:=(hc.up R).2 _ (List.getElem_mem hi);obtain⟨A,c,hv,_,_,_⟩:=U.open_;rw[hv]at U|-;refine⟨A,c,true,ps[i].l,rfl,U,by omega,λj hj=>?_,R⟩;rw[show Pk.pad 128 ps[i].l=ps[i].l by unfold Pk.pad;rw[o];simp];exact hz _ (List.getElem_mem hi) j (by rw[J];exact hj)
 ·refine(FW v ps sz k _ rfl w hc I om (λp A' J=>hh ?_)).mono ?_
  ·obtain⟨i,hi,rfl⟩:=List.getElem_of_mem A';exact⟨i,hi,J⟩
  rintro e w' ⟨rfl,R⟩;refine⟨none,0,false,[],rfl,bw.fp _ _ _,by simp,λj hj=>?_,R⟩;unfold Pk.pad;rw[List.nil_append,List.getD_eq_getElem?_getD,List.getElem?_replicate];split<;>rfl
theorem Own.Kt {B:Nat} {w w':World} {qs:List Pc} {base n sz:Nat} {v:Value} {xs:List Value} (h:Own B w qs) (ho:w.ownsRow base 3 sz v n xs) (hg:w.grownBy w' v.ownBlock):Own B w' qs:=λq J=>by obtain⟨g,R,I,U,j⟩:=h q J;exact⟨g,R,I.grown hg (aW ho I dc),U,j⟩
theorem tA {n:Nat}:∀{ps:List Pc},(∀p∈ps,p.n<n)->nw ps n=ps.length
 |[],_=>rfl
 |p::r,h=>by unfold nw;rw[if_pos (h p List.mem_cons_self),tA λq I=>h q (List.mem_cons_of_mem _ I)];rfl
def p8 (d:List UInt8) (k:Nat):List (Nat×List UInt8):=(List.range k).map λn=>(n,Sp.blk d n)
def wE (k:Nat):List Int:=(List.range k).map Int.ofNat
theorem FT (d:List UInt8) (k:Nat):p8 d (k+1)=p8 d k++[(k,Sp.blk d k)]:=by unfold p8;rw[List.range_succ,List.map_append];rfl
theorem oT (k:Nat):wE (k+1)=wE k++[(k:Int)]:=by unfold wE;rw[List.range_succ,List.map_append];rfl
theorem se (k:Nat): (wE k).length=k:=by unfold wE;simp
theorem qP {w:World} {B k e:Nat} {v:Value} (h:w.ownsRow B e 1 v k ((wE k).map (Value.int .i64))):Is .i64 w w.heap.size v (wE k):=by have:=bw.aG h;unfold Is;rw[se];exact this
theorem yZ (v:Value) (size:Nat) (ps:List Pc) (vb:Value) (d:List UInt8) (w:World) (h:fj w w.heap.size v ps) (hv:Vd size ps) (hl:ps.length<=1) (hz:∀p∈ps,∀j,d.length<=128*p.n+j->p.l.getD j 0=0) (hlt:∀p∈ps,p.n<Sp.nb d.length)
 (hb:Bs w w.heap.size vb d) (hd0:0<d.length) (hd1:d.length<=100000) (hsz:size<=d.length):
 Calls prog 73 #[.agg #[i6 (size:Int),v],i6 0,vb] w (N6 w d.length (p8 d (Sp.nb d.length)) (wE (Sp.nb d.length))):=by
 obtain⟨Ab,cb,rfl,K2,K5,_⟩:=hb.open_;obtain⟨A,c,rfl,hc,hm,BO⟩:=h.open_;have H:=ja h;have HV:=ja hv;have HZ:=ja hz;have HL:=ja hlt;have HB:=ja hb;have e1:¬(463488:Int)<(d.length:Int):=by omega
 have e2:¬(463488:Int)-(d.length:Int)<0:=by omega
 have e3: ((d.length:Int)==0)=false:=by rw[beq_eq_false_iff_ne];omega
 obtain⟨last,BQ⟩:∃last:Nat,((d.length:Int)-1)/128=(last:Int):=⟨(d.length-1)/128,by omega⟩;have E1:=ja (show last+1=Sp.nb d.length by unfold Sp.nb;omega);have K7:last<=1000:=by omega
 clear h hv BO hb hz hlt;go_enter func73,ntmps73;go_upto_region 1 with fail
 generalize hW: (w.alloc (.cells _ 158)).alloc (.cells _ 158)=w0;have k3:ak w0 w.heap.size 158 [i6 (size:Int),.slice A ps.length c]:=by rw[<-hW];exact(ak.new w _ _).alloc _
 have k6:ak w0 (w.heap.size+1) 158 [i6 0,.slice none 0 0]:=by rw[<-hW];have:=ak.new (w.alloc (.cells #[i6 (size:Int),.slice A ps.length c] 158)) 158 #[i6 0,.slice none 0 0];rw[World.size_alloc]at this;exact this
 have b0:Bw w w0:=by rw[<-hW];exact(bh.alloc lh _).alloc sj _
 clear hW;obtain⟨g,hg⟩:=ex w.heap.size;have K8:w.heap.size<=g:=by omega
 rw[hg]at k3 k6|-;have HG:=ja hg;clear hg;have H4:w0.cell? (ae g 0)=some (i6 (size:Int)):=k3.cell 0;have H5:w0.cell? (ae g 1)=some (.slice A ps.length c):=k3.cell 1;go_wp2_with fail
 refine(cP _ size ps w0 (H.a.up b0) HV.a om).mono ?_;rintro e w1 ⟨rfl,b1⟩;replace k3:=k3.ext b1;replace k6:=k6.ext b1;have H1:=ja ((H.a.up b0).up b1);replace b0:=b0.trans (b1.mono b0.size);have Bg:=k3.lt;have d0:w1.cell? (ae g 0)=some (i6 (size:Int)):=k3.cell 0;have d1:w1.cell? (ae g 1)=some (.slice A ps.length c):=k3.cell 1;have H6:=ja ((HB.a.ext lh b0).more b0.size);have B0:=ja b0;have K6:=ja k6;have K3:=ja k3;have E4:=λW=>qV A ps.length c 0 (Nat.zero_le _) 0 rfl W;clear b1 k3 k6 b0 H4 H5;go_upto_region 8 with fail
 have A2:Bw w1 w1.drew:=bh.drew;refine wp_region_list 8 [(ez (pt g 1)),(ez (.slice A ps.length c)),(ez (.agg #[i6 (size:Int),.slice A ps.length c])),(ez (i6 0)),(ez (i6 0)),(ez (.slice A 0 c)),(ez (.slice none 0 0)),(ez (.slice none 0 0))]
  (λq=>Bw w1 q) kj rfl kj ?_ ?_ ?_ ?_
 ·exact A2
 ·exact sv
 ·refine⟨rz [] [3],rx [0,54] [] λx hG=>cl hG Bg d1,rx [] [3] λx hG=>And.intro (cl hG Bg d0) (cl hG Bg d1),rz [] [9],?_,rx [1,55,4,58] [] λx hG=>E4 x,?_,rz [6,60] [],trivial⟩
  ·intro a x hG hd hs K hK;have K9:_=_:=hd 2 56 kj;have KA:_=_:=hd 3 57 kj;clear hd hs;refine pj ?_;go_simp;refine(cN _ ps _ 0 _ rfl _ (H1.a.up hG) HV.a.inc om).mono ?_;rintro e w' ⟨rfl,hb⟩;rw[show nw ps 0=0 by cases ps<;>simp[nw]];exact hK _ _ rfl (hG.trans (hb.mono hG.size)) hb
  ·intro a x hG hd hs K hK;have KC:_=_:=hd 5 59 kj;clear hd hs;refine pj ?_;go_simp;refine(p5 A c _).mono ?_;rintro e w' ⟨rfl,rfl⟩;exact hK _ _ rfl hG bh
 ·intro x hG;(iterate 8 rintro _ rfl);simp only[ap];(try simp only[Exit.then]);have E5:=B0.a.trans (hG.mono B0.a.size);have H7:=ja E5;have A8:=ja (K3.a.ext hG);have Bt:=ja (K6.a.ext hG);have H2:=ja (H1.a.up hG);have H9:=ja ((H6.a.ext lh hG).more hG.size);clear hG A2 d0 d1 E5 E4;generalize x=w2 at*;go_wp2;(go_loopw [11,12,13] (λu11 u12 u13 wr=>∃(k:Nat) (qs:List Pc),k<=last+1/\u13=i6 k/\qs.map nl=p8 d k/\Own w2.heap.size wr qs/\wr.ownsRow w2.heap.size 225 2 u11 qs.length (aZ qs)/\wr.ownsRow w2.heap.size 3 1 u12 k ((wE k).map (Value.int .i64))/\Bw w2 wr) (λ_ _ i _=>last+1-(intOf i).toNat));case atStart=>exact⟨0,[],Nat.zero_le _,rfl,rfl,(λ_ hq=>(by cases hq)),World.ownsRow_nil _ _ _ _,World.ownsRow_nil _ _ _ _,Below.refl _ _⟩
  case round=>
   obtain⟨k,qs,hk,rfl,Bu,ho,I,J,R⟩:=hrel;have q3:=A8.a.ext R;have c0:wr.cell? (ae g 0)=some (i6 (size:Int)):=q3.cell 0;have c1:wr.cell? (ae g 1)=some (.slice A ps.length c):=q3.cell 1;have A':qs.length=k:=(by have:=congrArg List.length Bu;simp[p8]at this;omega);have HQ:=ja (⟨Bu,A'⟩:qs.map nl=p8 d k/\qs.length=k);clear Bu A';by_cases KE:k<last+1
   ·have HO:=ja ho;have HA:=ja I;have HC:=ja J;have A3:=ja R;clear ho I J R q3;have KG: (k:Int)<=(last:Int):=(by omega);(go_wp2_with fail);refine(GH _ ps _ d k _ (H2.a.up A3.a) hl HZ.a).mono ?_;rintro e w3 ⟨Ao,co,bl,ol,rfl,E6,AI,B',b3⟩;have HD:=ja B';have B1:=ja AI;(go_wp2_with fail);refine(qG _ k ol w3 E6 AI).mono ?_;rintro e w4 ⟨g4,rfl,k4,E7,b4⟩;have b5:=b3.trans (b4.mono b3.size);have B5:=ja b5;have HE:=ja (show wr.heap.size<=g4 from Nat.le_trans b3.size E7);have K4:=ja k4;clear b3 b4 b5 k4 E7 E6 AI B' c0 c1;(go_upto_region 16 with fail);obtain⟨W5,Aw⟩:=ex (w4.alloc (.cells #[i6 (k:Int),.slice (some ⟨g4,0,none⟩) 128 128] 225));have A0:ak W5 w4.heap.size 225 [i6 (k:Int),.slice (some ⟨g4,0,none⟩) 128 128]:=(by rw[<-Aw];exact ak.new w4 _ _);have b6:Bw w4 W5:=(by rw[<-Aw];exact bh.alloc lh _);rw[Aw];obtain⟨g16,AR⟩:=ex w4.heap.size;rw[AR]at A0|-;have E8:=ja AR;have b7:=B5.a.trans (b6.mono B5.a.size);have E9:=K4.a.ext b6;have EC:=A0.lt;have EK:W5.cell? (ae g16 1)=some (.slice (some ⟨g4,0,none⟩) 128 128):=A0.cell 1;have B7:=ja b7;have B8:=A3.a.trans (b7.mono A3.a.size);have EX:=H9.a.ext lh B8;have HH:k*128<=d.length:=(by omega);obtain⟨A4,c4,hcut,F'⟩:=s' (k:=k*128) EX HH ((k:Int)*128) om;simp only[List.length_drop]at hcut;have Aa:=F';rw[List.length_drop]at Aa;have By:=λW=>ig (some ⟨g4,0,none⟩) 128 128 0 (Nat.zero_le _) 0 rfl W;have HI:=ja Aa;clear Aa;have KK:=ja B8;have HK:=ja E9;have HM:=ja A0;have KM: (0:Int)<=(k:Int)*128:=(by omega);have KN: (k:Int)*128<=200000:=(by omega);clear Aw AR b6 b7 E9 A0 B8 EX F';have A2:Bw W5 W5.drew:=bh.drew;refine aQ 14 13 [(ez (pt g16 1)),(ez (.slice (some ⟨g4,0,none⟩) 128 128)),(ez (i6 0)),(ez (i6 ((k:Int)*128))),(ez (i6 (-((k:Int)*128)))),(ez (i6 0)),(ez (.slice (some ⟨g4,0,none⟩) 128 128)),(ez (.slice Ab d.length cb)),(ez (i6 ((k:Int)*128))),(ez (i6 0)),(ez (i6 ((k:Int)*128))),(ez (i6 ((k:Int)*128))),(ez (.slice A4 (d.length-k*128) c4))]
     (λq=>Bw W5 q) kj rfl dc kj kj ?_ ?_ ?_ ?_
    ·exact A2
    ·exact sv
    ·refine⟨rz [] [16],rx [0,79] [] λx hG=>cl hG EC EK,rz [] [1],rz [] [17],rx [2,81,3,82] [] λx hG=>(IntWalk.i64_in _ om:IntKind.i64.wrap (-((k:Int)*128))=-((k:Int)*128)),rx [4,83] [] λx hG=>(by split<;>omega: (if 0<(k:Int)*128 then(0:Int)else-((k:Int)*128))=0),rz [1,80,5,84] [],rz [] [2],rz [] [17],rz [] [1],rx [8,87,9,88] [] λx hG=>(IntWalk.i64_in _ om:IntKind.i64.wrap ((k:Int)*128)=(k:Int)*128),rz [10,89] [],rx [7,86,11,90] [] λx hG=>hcut x,trivial⟩
    ·intro x hG;(iterate 13 rintro _ rfl);simp only[ap];rw[show List.range' 13 (14-13)=[13]from rfl,wpOps_cons];have KD:=HK.a.ext hG;have B2:=HI.a.ext (Nat.le_trans A3.a.size (Nat.le_trans B7.a.size lh)) hG;have Ad:bw x w2.heap.size 1 (.slice A4 (d.length-k*128) c4) (d.length-k*128) (dU (d.drop (k*128))):=(by have e:=B2;unfold Bs at e;rw[List.length_drop]at e;exact e);obtain⟨w6,HN,k6,B3,F0,HP⟩:=jC (P:=prog) KD (o:=0) (n:=128) (c':=128) 23 3 5 underlying23 kj Ad (gj _) (by rw[gG];unfold Pk.pad;rw[List.length_append,List.length_replicate];have:=B1.a;omega);have F1: (Pk.pad 128 ol).length=128:=(by unfold Pk.pad;rw[List.length_append,List.length_replicate];have:=B1.a;omega);have B4: (dU (Pk.pad 128 ol)).take 0++(dU (d.drop (k*128))).take (min (d.length-k*128) 128)++(dU (Pk.pad 128 ol)).drop (0+min (d.length-k*128) 128)=dU (Sp.blk d k):=copied d _ k F1 HD.a;rw[B4]at k6;have C4:=HE.a;have F2:=E8.a;have b9:=B3 wr.heap.size wr C4 (B7.a.trans (hG.mono B7.a.size));have CC:=K4.a.lt;have A0:=F0.blk (HM.a.ext hG) om;have y0:w6.cell? (ae g16 0)=some (i6 (k:Int)):=A0.cell 0;have y1:w6.cell? (ae g16 1)=some (.slice (some ⟨g4,0,none⟩) 128 128):=A0.cell 1;refine pj ?_;go_simp;unfold wpOps;simp only[Exit.then];have O6:=ja (HO.a.ext b9);have Ae:=ja (aD HA.a b9);have HR:=ja (aD HC.a b9);have B9:=ja (A3.a.trans (b9.mono A3.a.size));have F3:=ja k6;have Ah:w2.heap.size<=w6.heap.size:=Nat.le_trans A3.a.size b9.size;have HS:=HQ.a.2;have F4:=ja (show w2.heap.size<=g4 from Nat.le_trans A3.a.size C4);clear B3 F0 HP HN B2 Ad KD hG A2 hcut By k6 b9 A0 B4 F1 C4 F2 CC EK;(go_wp2_with(at_builtin;refine bT ?_));refine aH rfl _ _ rfl rfl rfl sj underlying156 pL rfl dc Ae.a rfl (by simp[Value.oneCell']) (by rw[aq];omega) om Ah ?_;intro v7 w7 Aq A5;have HT:=ja Aq;have O7:=ja (O6.a.grown Ae.a A5);have F5:=ja (F3.a.grown A5 (aW Ae.a F3.a dc));have Ar:=ja (gV HR.a Ae.a dc A5);have Cd:Bw w2 w7:=B9.a.grown A5 Ah (λj e=>(Ae.a.lt j e).1);have Co:w2.heap.size<=w7.heap.size:=Cd.size;have HU:=ja Cd;clear Aq A5 Cd;(go_wp2_with(at_builtin;refine bT ?_));refine aH rfl _ _ rfl rfl rfl sj underlying50 cI rfl dc Ar.a rfl (by simp[Value.oneCell']) (by rw[aq];omega) om Co ?_;intro v8 w8 As A6;have HW:=ja As;have O8:=ja (Own.Kt O7.a Ar.a A6);have HX:=ja (F5.a.grown A6 (aW Ar.a F5.a dc));have HY:=ja (gV HT.a Ar.a dc A6);have Hw:=ja (HU.a.grown A6 Co (λj e=>(Ar.a.lt j e).1));clear As A6 Co Ah HS;go_wp2;go_roundw;case rel=>
      refine⟨v7,v8,i6 ((k+1:Nat):Int),⟨k+1,by omega,rfl,qs++[⟨k,.slice (some ⟨g4,0,none⟩) 128 128,Sp.blk d k⟩],?_,?_,?_,?_,Hw.a⟩,rfl,rfl,by go_num⟩
      ·rw[List.map_append,HQ.a.1,FT];rfl
      ·intro q hq;rcases List.mem_append.1 hq with hq|hq
       ·exact O8.a q hq
       ·rw[List.mem_singleton.1 hq];exact⟨g4,rfl,HX.a,F4.a,Sp.aM _ _⟩
      ·rw[List.length_append,iU];exact HY.a
      ·rw[oT,List.map_append];exact HW.a
     case measure=>exact ms
   ·obtain rfl:k=last+1:=(by omega);have HF:=ja (⟨ho,I,J,R⟩:Own w2.heap.size wr qs/\wr.ownsRow w2.heap.size 225 2 u11 qs.length (aZ qs)/\wr.ownsRow w2.heap.size 3 1 u12 (last+1) ((wE (last+1)).map (Value.int .i64))/\Bw w2 wr);clear ho I J R q3;have c0:wr.cell? (ae g 0)=some (i6 (size:Int)):=(A8.a.ext HF.a.2.2.2).cell 0;have c1:wr.cell? (ae g 1)=some (.slice A ps.length c):=(A8.a.ext HF.a.2.2.2).cell 1;have D0:g<wr.heap.size:=(A8.a.ext HF.a.2.2.2).lt;obtain⟨T,hT⟩:∃T,T=(if c=ps.length then A else A.map (·.add (ps.length*2))):=⟨_,rfl⟩
    have B6:∀W,(Instr.slice 156 (.slice A ps.length c) (some (i6 (ps.length:Int))) none none).run prog W=.ok (.slice T 0 (c-ps.length)) W:=λW=>(by have e:=rp A ps.length c ps.length lh (ps.length:Int) rfl W;rw[Nat.sub_self,<-hT]at e;exact e);clear hT;(go_upto_region 19 with fail);rw[BQ];have A2:Bw wr wr.drew:=bh.drew;obtain⟨Im,J1,J2,F6⟩:∃A n c,u11=.slice A n c:=by
     rcases HF.a.2.1.2 with⟨h1,_⟩|⟨g',BB,cur,h1,_⟩
     ·exact⟨_,_,_,h1⟩
     ·exact⟨_,_,_,h1⟩
    subst F6;refine aQ 11 9 [(ez (.slice Im J1 J2)),(ez (pt g 1)),(ez (.slice A ps.length c)),(ez (.agg #[i6 (size:Int),.slice A ps.length c])),(ez (i6 (last:Int))),(ez (i6 ((last:Int)+1))),(ez (i6 (ps.length:Int))),(ez (.slice T 0 (c-ps.length))),(ez (.slice none 0 0))]
     (λq=>Bw wr q) kj rfl dc kj kj ?_ ?_ ?_ ?_
    ·exact A2
    ·exact sv
    ·refine⟨rz [] [11],rz [] [3],rx [1,102] [] λx hG=>cl hG D0 c1,rx [] [3] λx hG=>And.intro (cl hG D0 c0) (cl hG D0 c1),rz [] [10],rx [4,105] [] λx hG=>(IntWalk.i64_in _ om:IntKind.i64.wrap ((last:Int)+1)=(last:Int)+1),?_,rx [2,103,6,107] [] λx hG=>B6 x,?_,trivial⟩
     ·intro a x hG hd hs K hK;have Jx:_=_:=hd 3 104 kj;have K0:_=_:=hd 5 106 kj;clear hd hs;refine pj ?_;go_simp;refine(cN _ ps _ (last+1) _ rfl _ (H2.a.up (HF.a.2.2.2.trans (hG.mono HF.a.2.2.2.size))) HV.a.inc om).mono ?_;rintro e w' ⟨rfl,hb⟩;rw[tA λp hp=>by have:=HL.a p hp;have:=E1.a;omega];exact hK _ _ rfl (hG.trans (hb.mono hG.size)) hb
     ·intro a x hG hd hs K hK;have K1:_=_:=hd 7 108 kj;clear hd hs;refine pj ?_;go_simp;refine(p5 T _ _).mono ?_;rintro e w' ⟨rfl,rfl⟩;exact hK _ _ rfl hG bh
    ·intro x hG;(iterate 9 rintro _ rfl);simp only[ap];rw[show List.range' 9 (11-9)=[9,10]from rfl,wpOps_cons];obtain⟨F7,I,J,R⟩:=HF.a;have U:=aD I hG;have A':=HQ.a.2;obtain⟨v9,w9,Au,A1,A7,_⟩:=aE (P:=prog) (ty:=156) underlying156 pL rfl dc U (bw.fp x 0 2) (λu hu=>by cases hu) (by rw[aq];omega) om (Nat.le_trans R.size hG.size);rw[List.append_nil,Nat.add_zero]at A1;have Ax:=(R.trans (hG.mono R.size)).grown A7 (Nat.le_trans R.size hG.size) (λj e=>(U.lt j e).1);have O9:=(F7.ext hG).grown U A7;have D3:=gV (aD J hG) U dc A7;refine pj ?_;refine c_ 101 109 156 rfl rfl rfl Au ?_;rw[wpOps_cons];refine pj ?_;obtain⟨A9,n9,c9,J3⟩:∃A n c,v9=.slice A n c:=by
      rcases A1.2 with⟨h1,_⟩|⟨g',BB,cur,h1,_⟩
      ·exact⟨_,_,_,h1⟩
      ·exact⟨_,_,_,h1⟩
     subst J3;obtain⟨F8,FZ,G1,G2⟩:∃A n c,u12=.slice A n c:=by
      rcases D3.2 with⟨h1,_⟩|⟨g',BB,cur,h1,_⟩
      ·exact⟨_,_,_,h1⟩
      ·exact⟨_,_,_,h1⟩
     subst G2;have G5:=A8.a.below Ax A8.a.lt;have Av:=Bt.a.below Ax Bt.a.lt;have z0:w9.cell? (ae g 0)=some (i6 (size:Int)):=G5.cell 0;have z1:w9.cell? (ae (g+1) 0)=some (i6 0):=Av.cell 0;have z2:w9.cell? (ae (g+1) 1)=some (.slice none 0 0):=Av.cell 1;have z3:=Av.frozen;have KO:¬(d.length:Int)<(size:Int):=(by omega);have G7:=ja (⟨O9,A1,D3,Ax,Av⟩:Own w2.heap.size w9 qs/\w9.ownsRow w2.heap.size 225 2 (.slice A9 n9 c9) qs.length (aZ qs)/\w9.ownsRow w2.heap.size 3 1 (.slice F8 FZ G1) (last+1) ((wE (last+1)).map (Value.int .i64))/\Bw w2 w9/\ak w9 (g+1) 158 [i6 0,.slice none 0 0]);clear F7 I J R U A' A1 A7 Ax O9 D3 G5 Av hG A2 B6 Au;simp only[Act.put];go_simp;unfold wpOps;simp only[Exit.then];go_wp2;all_goals
      first
      |(have hq:=Nat.le_antisymm hsz (Nat.le_of_not_lt h);subst hq)
      |skip
      obtain⟨q1,q2,q3,q4,q5⟩:=G7.a;have zz:=(q5.aC 0 (i6 (d.length:Int))).aC 1 (.slice A9 n9 c9);refine bodyPost_ret (v:=.tuple #[.agg #[i6 (d.length:Int),.slice A9 n9 c9],.slice F8 FZ G1,i6 0]) (ia [i6 (d.length:Int),.slice A9 n9 c9] _ results73 rfl zz.range underlying158 rfl mz rfl rfl) rfl ?_;have G8:=H7.a;have H0:∀p:Nat,p=g+1->w.heap.size<=p:=λp hp=>(by omega);have T:=(af.setCell w9 (g+1) 0 (i6 (d.length:Int))).trans (af.setCell _ (g+1) 1 (.slice A9 n9 c9)) (λ_ h=>.inl h);have hlt:=Bt.a.lt;have H3:Own w2.heap.size ((w9.setCell (ae (g+1) 0) (i6 (d.length:Int))).setCell (ae (g+1) 1) (.slice A9 n9 c9)) qs:=λq hq=>(by obtain⟨g9,h1,h2,h3,h4⟩:=q1 q hq;exact⟨g9,h1,T.blk h2 om,h3,h4⟩);have D5:=cE q2 T (λb hb=>by have:=(q2.lt b hb).1;omega);have Dv:=cE q3 T (λb hb=>by have:=(q3.lt b hb).1;omega);have hle:w.heap.size<=w2.heap.size:=G8.size;rw[<-E1.a];refine⟨_,qs,_,rfl,?_,H3.base hle,H3.JF D5,qP Dv,((G8.trans (q4.mono hle)).setCell (p:=ae (g+1) 0) (H0 _ rfl) _).setCell (p:=ae (g+1) 1) (H0 _ rfl) _,λb hb=>⟨Nat.le_trans hle (D5.lt b hb).1,(D5.lt b hb).2⟩,λb hb=>⟨Nat.le_trans hle (Dv.lt b hb).1,(Dv.lt b hb).2⟩⟩;exact HQ.a.1
end
end Sq
end Go.Proofs.YtdhgejiacehpbaaGreatDoor
