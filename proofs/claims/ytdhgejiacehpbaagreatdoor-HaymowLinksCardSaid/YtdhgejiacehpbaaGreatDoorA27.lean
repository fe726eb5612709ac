import Derived.Test.YtdhgejiacehpbaaGreatDoorA26
set_option maxRecDepth 100000
set_option maxHeartbeats 16000000
set_option linter.all false
namespace Go.Proofs.YtdhgejiacehpbaaGreatDoor
open Go.Proofs.Tryz
namespace Co
open Go.RowKit
open Et (E)
attribute [local go_sem] Oper.semAt_some
section
variable {w w' w'':World} {c c' c'':C} {fs fs':List Fi} {f fd fl:Fi} {L L':List E} {g t:Nat} {o o':Option (Int×Int)}
theorem j0 {m p:Int} (F:dw w c [fd,fl] L g t (some (m,p))) (hl:0<fl.ar):
 Calls prog 8 #[pt g 0,i6 0] w λe w'=>e=.returned (i6 0)/\qI w c [fd,fl] L g t none w':=by
 have H:=ja F;have x0:=F.x0;clear F;go_enter func8,ntmps8;go_wp2_with fail
 refine(jJ H.a.du).mono ?_;rintro e w1 ⟨rfl,R⟩;obtain⟨c1,U,F1,O1,A'⟩:=H.a.Ay R;have o:=jc U F1 O1;have x1:=F1.x1;clear R U F1 O1 A' x0;go_wp2_with fail
 refine(Tb.lT o.b.mN).mono ?_;rintro e w2 ⟨rfl,b2⟩;have F2:=o.b.below b2;have B2:=jb b2 F2;clear b2 F2 x1;unfold Tb.tM;go_upto_region 3 with fail
 obtain⟨q,hq⟩:=ex w2.heap.size;obtain⟨w3,e3,k3,b3,s3⟩:=ax w2 76 #[i6 2,i6 m,i6 p] q hq;rw[e3,hq];have I:Below w2.heap.size w2 w3:=hq▸b3;have F3:=B2.b.below I;have x1:=F3.x1;have A0:=ja (Tb.j0 F3.mN);have j:=jc F3 ((o.c.trans (gI.below B2.a c1)).trans (gI.below I c1)) k3;clear e3 k3 b3 s3 I F3 hq;go_wp2_with fail
 refine A0.a.mono ?_;rintro e w4 ⟨rfl,J⟩;obtain⟨F4,O4⟩:=j.a.GY J;have k4:=J.2.blk j.c (aR j.c j.a.mN dc);have Z4:=jb F4 (j.b.trans O4);have y0:=k4.cell 0;have A1:=ja (np F4 hl);clear J F4 O4 k4 x1;go_wp2_with fail
 refine A1.a.mono ?_;rintro e w5 ⟨rfl,b5⟩;have Z5:=jb (Z4.a.below b5) (Z4.b.trans (gI.below b5 c1));clear b5 y0;go_wp2;go_ret;exact⟨rfl,c1,o.a,Z5.a,Z5.b⟩
def Mn (w:World) (c:C) (fs:List Fi) (L:List E) (g t:Nat) (d:List UInt8) (e:Ending) (w':World):Prop:=∃A k p,e=.returned (.tuple #[.slice A d.length k,i6 0])/\w'.ownsRow w.heap.size 5 1 (.slice A d.length k) d.length (dU d)/\qI w c fs L g t (some (1,p)) w'
def DQ (B:Nat) (d:List UInt8) (u:Value) (V:World):Prop:=∃A k,u=.slice A d.length k/\V.ownsRow B 5 1 (.slice A d.length k) d.length (dU d)
theorem DQ.turn {B b:Nat} {d:List UInt8} {u:Value} {V V':World} (h:DQ B d u V) (T:af (· =b) V V') (hb:b<B):DQ B d u V':=by obtain⟨A,k,R,I⟩:=h;exact⟨A,k,R,Dv.aJ I T λi e J=>by have:=(I.lt i e).1;have J:i=b:=J;omega⟩
theorem BF (F:dw w c [fd,fl] L g t (some (1,0))) (hv:fl.vs.length=Sp.nb fl.d.length) (hdl:fl.d.length<=300):
 Calls prog 12 #[pt g 0,i6 0,i6 999] w (Mn w c [fd,fl] L g t fl.d):=by
 have H:=ja F;have HV:=ja hv;have x0:=F.x0;clear F hv;go_enter func12,ntmps12;go_wp2_with fail
 refine(jJ H.a.du).mono ?_;rintro e w1 ⟨rfl,A4⟩;obtain⟨c1,A5,F1,O1,Ao⟩:=H.a.Ay A4;have Z1:=jc A5 F1 O1;have x1:=F1.x1;clear A4 A5 F1 O1 Ao x0;go_wp2_with fail
 refine(Tb.rm Z1.b.mN (.inl rfl)).mono ?_;rintro e w2 ⟨rfl,b2⟩;have F2:=Z1.b.below b2;have B2:=jb b2 F2;clear b2 F2 x1;unfold Tb.tM;go_upto_region 3 with fail
 obtain⟨q,hq⟩:=ex w2.heap.size;obtain⟨U,e3,k3,b3,s3⟩:=ax w2 76 #[i6 2,i6 1,i6 0] q hq;rw[e3,hq];have A':Below w2.heap.size w2 U:=hq▸b3;have F3:=B2.b.below A';have Z3:=jc F3 ((Z1.c.trans (gI.below B2.a c1)).trans (gI.below A' c1)) k3;have A6:q≠c1.g:=aR k3 F3.du.core dc;have o:c1.g<U.heap.size:=F3.du.core.lt;clear e3 k3 b3 s3 A' F3 hq;go_upto_region 5 with fail
 have A7:GQ false (λy=>Below U.heap.size U y) (λy=>Seen U c1 [fd,fl] y) U.drew:=⟨λ_=>(Below.refl _ U).drew,λe=>(by cases e)⟩;refine cK 15 [(ez (pt g 0)),(ez (pt g 0)),(ez (pt g 0)),(ez (pt c1.g 0)),(ez (pt q 0)),(ez (i6 2)),(ez (pt q 2)),(ez (i6 0)),(ez (i6 999)),(λu x_=>∃v,u=.tuple #[v,i6 0]/\DQ U.heap.size fl.d v x_),(λu x_=>∃v,u=.tuple #[v,i6 0]/\DQ U.heap.size fl.d v x_),(DQ U.heap.size fl.d),(ez (i6 0)),(DQ U.heap.size fl.d),(ez (i6 0))]
  (λf_ x_=>GQ (f_ 9) (λy=>Below U.heap.size U y) (λy=>Seen U c1 [fd,fl] y) x_) (λ_ x_ x'=>af (· =c1.g) x_ x') kj rfl kj ?_ ?_ ?_ ?_
 ·exact A7
 ·intro i_ j_ v_ x_ x' Aw hv hE;rcases j_ with _|_|_|_|_|_|_|_|_|_|_|_|_|_|_|j_;all_goals first|exact hv|skip
  ·obtain⟨u,h1,h2⟩:=hv;exact⟨u,h1,DQ.turn h2 hE o⟩
  ·obtain⟨u,h1,h2⟩:=hv;exact⟨u,h1,DQ.turn h2 hE o⟩
  ·exact DQ.turn hv hE o
  ·exact DQ.turn hv hE o
 ·refine⟨lz [] [0],lz [0,29] [],lz [1,30] [],?_,lz [] [8],?_,lz [] [8],?_,lz [] [2],?_,?_,?_,?_,?_,lz [12,40] [],trivial⟩
  ·intro f a x R J I hG hd hs K hK;have n3:f 3=false:=R;have n9:f 9=false:=I.no 9 3 32 n3 kj;have Ax:_=_:=hd 2 31 kj;clear hd hs J I;refine pj ?_;have x0:=(Z3.a.below (hG.1 n9)).x0;go_simp;exact hK _ _ rfl hG (af.refl _ _)
  ·intro f a x R J I hG hd hs K hK;have n5:f 5=false:=R;have n9:f 9=false:=I.no 9 5 34 n5 kj;have B':_=_:=hd 4 33 kj;clear hd hs J I;refine pj ?_;have x0:=(Z3.c.ext (hG.1 n9)).cell 0;go_simp;exact hK _ _ rfl hG (af.refl _ _)
  ·intro f a x R J I hG hd hs K hK;have n7:f 7=false:=R;have n9:f 9=false:=I.no 9 7 36 n7 kj;have B0:_=_:=hd 6 35 kj;clear hd hs J I;refine pj ?_;have x0:=(Z3.c.ext (hG.1 n9)).cell 2;go_simp;exact hK _ _ rfl hG (af.refl _ _)
  ·intro f a x R J I hG hd hs K hK;have n9:f 9=false:=R;have B1:_=_:=hd 3 32 kj;have B3:_=_:=hd 5 34 kj;have B4:_=_:=hd 7 36 kj;have B5:_=_:=hd 8 37 kj;clear hd hs J I;refine pj ?_;have hb:=hG.1 n9;have hR:Calls prog 40 #[pt c1.g 0,i6 2,i6 0,i6 999] x (pZ x c1 [fd,fl] 1 fl.d):=uR (Z3.a.du.below hb) 1 fl rfl dc 2 rfl HV.a om 999 om dc;have HR:=ja hR;clear hR;go_simp;refine HR.a.mono ?_;rintro e y ⟨u,c2,rfl,ho,Aq,hC,hT⟩;obtain⟨A,k,rfl⟩:=Dv.aX ho;exact hK _ _ ⟨_,rfl,A,k,rfl,Ad.dn ho hb.size⟩ ⟨λe=>(by cases e),λ_=>Seen.behind hb ⟨c2,Aq,hC,hT⟩⟩ hT
  ·intro f a x R J I hG hd hs K hK;have Ar:=hd 9 38 kj;clear hd hs J I;refine pj ?_;obtain⟨v,hv,hq⟩:=Ar;have A8:=aA hv;go_simp;exact hK _ _ ⟨v,rfl,hq⟩ hG (af.refl _ _)
  ·intro f a x R J I hG hd hs K hK;have A0:=hd 10 28 kj;clear hd hs J I;refine pj ?_;obtain⟨v,hv,hq⟩:=A0;have A8:=aA hv;go_simp;exact hK _ _ hq hG (af.refl _ _)
  ·intro f a x R J I hG hd hs K hK;have A0:=hd 10 28 kj;clear hd hs J I;refine pj ?_;obtain⟨v,hv,hq⟩:=A0;have A8:=aA hv;go_simp;exact hK _ _ rfl hG (af.refl _ _)
  ·intro f a x R J I hG hd hs K hK;have A9:=hd 11 39 kj;clear hd hs J I;refine pj ?_;obtain⟨u,As⟩:=ex (a.tmps.getD 39 undef);rw[As]at A9;go_simp;exact hK _ _ A9 hG (af.refl _ _)
 ·intro x hG;replace hG: (λf_ x_=>GQ (f_ 9) (λy=>Below U.heap.size U y) (λy=>Seen U c1 [fd,fl] y) x_) (λj=>decide (j<15)) x:=hG;(try dsimp only at hG);(iterate 9 rintro _ rfl);rintro v9 Au v10 AI v11 AR _ rfl B6 Aa _ rfl;simp only[Act.put,List.setIfInBounds_toArray,List.set_cons_zero,List.set_cons_succ,gC,List.getD_cons_zero,List.getD_cons_succ];(try simp only[Exit.then]);obtain⟨A,k,rfl,ho⟩:=Aa;have A1:=hG.2 rfl;obtain⟨c4,Ab,F4,O4⟩:=Z3.a.calm A1;have kq:ak x q 76 [i6 2,i6 1,i6 0]:=(by obtain⟨_,_,_,T⟩:=A1;exact T.blk Z3.c A6);have Ae:w.heap.size<=U.heap.size:=Z3.b.turn.size;have Z4:=je (Z1.a.trans Ab) F4 (Z3.b.trans O4) kq (Ad.dn ho Ae);obtain⟨n,hn⟩:=ex fl.d.length;have HN:=ja hn;rw[hn]at hdl|-;clear hn A1 Ab F4 O4 kq ho Ae hG A7 Au AI AR A6 o;generalize x=w5 at*;by_cases hd:n=0
  ·subst hd;go_wp2;go_ret2;exact⟨A,k,0,by rw[HN.a];rfl,Z4.e,c4,Z4.a,Z4.b,Z4.c⟩
  ·have B7:decide ((0:Int)<(n:Int))=true:=decide_eq_true om;(go_upto_region 9 with fail);refine wp_region_still_tail 10 kj kj ?_;obtain⟨w6,A2⟩:=ex ({w5 with drawn:=w5.drawn+1}:World);have b6:Below w5.heap.size w5 w6:=(by subst A2;exact(Below.refl _ w5).drew);rw[A2];have F6:=Z4.b.below b6;have x1:=F6.x1;have y2:=(Z4.d.ext b6).cell 2;have B8:IntKind.i64.wrap (0+(n:Int))=(n:Int):=(by rw[Int.zero_add];rw[IntKind.wrap_i64];omega);have Av:=ja (Tb.tP F6.mN (n:Int) om);have Z6:=jc F6 (Z4.c.trans (gI.below b6 c4)) (aD Z4.e b6);clear F6 b6 A2;simp only[List.take_succ_cons,List.take_zero,List.drop_succ_cons,List.drop_zero];(repeat still_step);refine wpStill_nil ?_;(go_wp2_with fail);refine Av.a.mono ?_;rintro e w7 ⟨rfl,A3⟩;obtain⟨F7,O7⟩:=Z6.a.GY A3;have Ah:=Dv.aJ Z6.c A3.2 λb e e2=>(by have h1:=(Z6.c.lt b e).1;have h2:=H.a.mN.lt;have e2:b=t:=e2;omega);have Z7:=jc F7 (Z6.b.trans O7) Ah;clear A3 F7 O7 Ah x1 y2;go_wp2;go_ret2;exact⟨A,k,n,by rw[HN.a];rfl,Z7.c,c4,Z4.a,Z7.a,Z7.b⟩
end
end Co
namespace Co
open Go.RowKit
open Et (E)
attribute [local go_sem] Oper.semAt_some
section
variable {w w' w'':World} {c c' c'':C} {fs fs':List Fi} {f fd fl:Fi} {L L':List E} {g t:Nat} {o o':Option (Int×Int)}
theorem Bs.DD {x:World} {v:Value} {l:List UInt8} (h:Bs w w.heap.size v l) (hs:0<l.length->∀b,b<w.heap.size->v.ownBlock=some b->x.heap[b]? =w.heap[b]?) (hz:w.heap.size<=x.heap.size):Bs x x.heap.size v l:=by obtain⟨A,k,rfl,R,U,o,h5⟩:=h;refine⟨A,k,rfl,R,U,o,λI=>?_⟩;obtain⟨b,off,rfl,J,hc⟩:=h5 I;refine⟨b,off,rfl,Nat.lt_of_lt_of_le J hz,λj u hu=>?_⟩;rw[<-hc j u hu];have e:=hs I b J rfl;simp only[World.cell?,e]
def MY (fd fl:Fi) (L:List E) (d:List UInt8) (c1 c2:C) (fs2:List Fi) (L2:List E):Prop:=∃f2,fs2=[fd,f2]/\f2.ty=fl.ty/\f2.ar=fl.ar/\f2.d=d/\f2.vs.length=Sp.nb d.length/\(c2.aF=c1.aF/\c2.b_=c1.b_)/\L2=L
theorem yK (F:dw w c [fd,fl] L g t (some (2,0))) (hF:Fit c [fd,fl]) (hd:fl.d=[]) (hvl:fl.vs=[]) (b0 b1 b2 b3:Nat) (vb:Value) (d:List UInt8) (hb:Bs w w.heap.size vb d) (hdl:d.length<=300) (k0:ak w b0 24 [pt g 0]) (k1:ak w b1 3 [i6 0]) (k2:ak w b2 3 [i6 0]) (k3:ak w b3 23 [vb]):
 Calls prog 26 #[pt b0 0,pt b1 0,pt b2 0,pt b3 0] w (Jh w c [fd,fl] L g t (some (2,0)) (MY fd fl L d) (· =0)):=by
 have Ad:=hb;obtain⟨Ab,kb,rfl,_⟩:=Ad;obtain⟨n,hn⟩:=ex d.length;have HN:=ja hn;have H:=jh F hF hd hvl k0 k1 k2 k3;have HB:=ja hb;rw[hn]at k3 H HB hdl;clear F hF hd hvl hb k0 k1 k2 k3 hn;have AI:Bw w w.drew:=(Below.refl _ w).drew;go_enter func26,ntmps26;go_upto_region 1 with fail
 refine fP 12 [(ey (pt g 0)),(ey (pt g 0)),(ey (pt g 1)),(ey (pt t 0)),(ey (i6 0)),(ey (.tuple #[.agg #[i6 2,i6 2,i6 0],i6 0])),(ey (.tuple #[.agg #[i6 2,i6 2,i6 0],i6 0])),(ey (.agg #[i6 2,i6 2,i6 0])),(ey (i6 0)),(λf_ u x_=>J9 w.heap.size 76 [i6 0,i6 0,i6 0] [i6 2,i6 2,i6 0] (f_ 10) u x_),(ey undef),(ey (i6 0))]
  (λ_ x_=>Bw w x_) (λi_ a_ x_ x'=>Gt 10 5 76 [i6 2,i6 2,i6 0] i_ a_ x_ x') kj rfl kj ?_ ?_ ?_ ?_
 ·exact AI
 ·intro i_ j_ d_ f_ a_ x_ x' Aw hd hv hE;rcases j_ with _|_|_|_|_|_|_|_|_|_|_|_|j_;(all_goals first|exact hv|skip);obtain rfl:5=d_:=Option.some.inj hd;exact J9.Ht hE hv
 ·refine⟨lx [] [0] λf x hG=>(H.e.ext hG).cell 0,lz [0,10] [],lz [1,11] [],lx [2,12] [] λf x hG=>(H.a.below hG).x1,lx [] [1] λf x hG=>(H.f.ext hG).cell 0,?_,lz [5,15] [],lz [6,9] [],lz [6,9] [],?_,?_,lz [8,17] [],trivial⟩
  ·intro f a x A4 A1 o hG hd hs K hK;have Ax:_=_:=hd 3 13 kj;have B':_=_:=hd 4 14 kj;clear hd hs A1 o;refine pj ?_;go_simp;refine(Tb.rm (H.a.below hG).mN (.inr rfl)).mono ?_;rintro e y ⟨rfl,hb⟩;exact hK _ _ rfl (hG.trans (hb.mono hG.size)) (Gt.of dc hb)
  ·intro f a x A4 A1 o hG hd hs K hK;have n9:f 9=false:=A4;have A7:f 10=false:=o.no 10 9 5 n9 kj;clear hd hs A1 o;refine pj ?_;go_simp;have hb:=(Below.refl x.heap.size x).alloc lh (.cells #[i6 0,i6 0,i6 0] 76);have hk:=ak.new x 76 #[i6 0,i6 0,i6 0];refine hK _ _ ?_ (hG.trans (hb.mono hG.size)) (Gt.of dc hb);exact⟨x.heap.size,rfl,hG.size,by show ak _ _ _ (cond (decide (10=9)||f 10) _ _);rw[A7];exact hk⟩
  ·intro f a x A4 A1 o hG hd hs K hK;have A7:f 10=false:=A4;have h5:=hd 9 5 kj;have Ae:_=_:=hd 7 16 kj;clear hd hs A1 o;refine pj ?_;obtain⟨t',ht,Ah,h0⟩:=h5;rw[A7]at h0;refine wp_store_mid 76 (.tmp 5) (.tmp 16) rfl t' 0 #[i6 2,i6 2,i6 0] ht Ae (h0.there 0 3 dc) kj (by simp[Value.oneCell']) ?_;exact hK _ _ rfl (fq hG Ah 0 _) ⟨λe=>absurd rfl e,λ_=>⟨t',ht,h0.setCells [i6 2,i6 2,i6 0] 0 dc⟩⟩
 ·intro x hG;replace hG: (λ_ x_=>Bw w x_) (λj=>decide (j<12)) x:=hG;(try dsimp only at hG);(iterate 9 rintro _ rfl);rintro v9 Ao _ rfl;simp only[ap];(try simp only[Exit.then]);obtain⟨t5,rfl,Aq,A'⟩:=Ao;replace A':ak x t5 76 [i6 2,i6 2,i6 0]:=A';have k2:=H.g.ext hG;have F2:=H.a.below hG;have y1:=A'.cell 1;have y2:=A'.cell 2;have z0:=k2.cell 0;have f0:=k2.frozen 0;have A5:=k2.aC 0 (i6 0);obtain⟨w3,A6⟩:=ex (x.setCell (ae b2 0) (i6 0));have Ts:af (· =b2) x w3:=A6▸af.setCell x b2 0 _;rw[A6]at A5;have T3:af (λ_=>False) x w3:=⟨Ts.os,Ts.tape,Ts.output,Ts.size,λk hk _=>by
   by_cases AR:k=b2
   ·subst AR;exact Eq.trans (show w3.heap[k]? =_ from A5) (Eq.symm k2)
   ·exact Ts.block k hk AR⟩
  have h3:Bw w w3:=((af.aj (X:=λ_=>False) hG).trans T3 λ_ e=>e.elim).bm lh λ_ e=>e.elim;have k5:=T3.blk A' id;have Z3:=jd h3 (H.a.below h3) k5 A5;have y3:=k5.cell 1;clear A' k2 F2 A5 Ts T3 h3 k5 hG AI Aq;(go_upto_region 10 with fail);(try rw[A6]);clear A6 y1 y2 y3 z0 f0;refine wp_region_still_tail 8 kj kj ?_;obtain⟨w4,A8⟩:=ex ({w3 with drawn:=w3.drawn+1}:World);have b4:Bw w3 w4:=(by subst A8;exact(Below.refl _ w3).drew);rw[A8];have R:=Z3.a.trans (b4.mono Z3.a.size);have F4:=H.a.below R;have x0:=F4.x0;have x1:=(H.e.ext R).cell 0;have y1:=(Z3.c.ext b4).cell 0;have y2:=(Z3.d.ext b4).cell 0;have y3:=(H.h.ext R).cell 0;have Aa:Bs w4 w4.heap.size (.slice Ab n kb) d:=Bs.DD HB.a (λ_ b hb _=>R.block b hb) R.size;have hW:Calls prog 29 #[pt c.g 0,i6 2,i6 0,.slice Ab n kb] w4 (JA w4 c [fd,fl] 1 fl ((Sp.F.mk fl.d fl.vs.length).write d)):=fV F4.du 1 fl rfl dc 2 rfl (by rw[H.d];decide) _ d Aa (oa HN.a) (by rw[H.c];exact Nat.zero_le _);have Z4:=jc F4 R hW;clear F4 R Aa hW b4 A8;simp only[td];(repeat still_step);refine wpStill_nil ?_;(go_wp2_with fail);refine Z4.c.mono ?_;rintro e w5 ⟨c5,f5,rfl,J,U,⟨Av,I⟩,A0,A2⟩;have Z5:=Lib.hid (⟨J,U,I,A0,A2⟩:_/\_/\_/\_/\_);clear J U I A0 A2 x0 x1 y1 y2 y3;go_wp2;go_ret;obtain⟨J,U,I,A0,A2⟩:=Z5.out;replace A0:bD w5 c5 [fd,f5]:=A0;obtain⟨f0,Ar,As⟩:=H.a.dir;obtain rfl:fd=f0:=Option.some.inj Ar;have F5:=Z4.a.move A0 A2 (by rw[I]) (by rw[I]) ⟨fd,rfl,As⟩;have Au: (Sp.F.mk fl.d fl.vs.length).write d=⟨d,Sp.nb d.length⟩:=by
   rw[H.c,H.d];unfold Sp.F.write;split
   ·rename_i h0;subst h0;rfl
   ·rfl
  rw[Au]at J U;replace J:f5.vs.length=Sp.nb d.length:=J;have A3:=H.b;refine⟨0,rfl,rfl,λ_=>⟨c5,[fd,f5],L,F5,(Step.below Z4.b c).trans A2,⟨by show 2<=2;decide,λf' A9=>?_,by rw[I];exact A3.cL,by rw[I];exact A3.b_,⟨by rw[I];exact A3.one.1,?_⟩⟩,by rw[I],by rw[I],by rw[I],f5,rfl,U.ty,U.ar,U.d,J,⟨by rw[I],by rw[I]⟩,rfl⟩,λe=>absurd rfl e⟩
  ·rcases List.mem_cons.1 A9 with rfl|A9
   ·exact A3.vs _ List.mem_cons_self
   ·obtain rfl:=List.mem_singleton.1 A9;rw[J];exact Fit.nb (oa HN.a)
  ·rw[I];exact nj.set c.av 2 c.tick A3.one.2
theorem L7:∀args x,(callFunc 26 args).run prog x=.ok (.enter 26 args) x:=λargs x=>by have h:=func26;go_simp
theorem xx (F:dw w c [fd,fl] L g t (some (2,0))) (hF:Fit c [fd,fl]) (ha:0<=c.age) (ha1:c.age<=900000) (hd:fl.d=[]) (hvl:fl.vs=[]) (vb:Value) (d:List UInt8) (hb:Bs w w.heap.size vb d) (hbo:0<d.length->∀b,vb.ownBlock=some b->c.own b=0) (hdl:d.length<=300):
 Calls prog 7 #[pt g 0,i6 0,vb] w λe w'=>e=.returned (i6 0)/\∃c1 c2 f2 p,kH c c1/\dw w' c2 [fd,f2] L g t (some (2,p))/\gI t w c w' c2/\Fit c2 [fd,f2]/\c2.age=c.age+1/\MY fd fl L d c1 c2 [fd,f2] L:=by
 have Aq:=hb;obtain⟨Ab,kb,rfl,_⟩:=Aq;obtain⟨n,hn⟩:=ex d.length;have HN:=ja hn;have H:=jf F hF ha ha1 hd hvl;have HB:=jb hb hbo;rw[hn]at HB hdl|-;have Aw:∀(fn:Fn) (first cap:Array Value) (w:World),(Instr.makeFunc fn first cap).run prog w=.ok (.func fn first cap) w:=λ_ _ _ _=>rfl;clear F hF ha ha1 hd hvl hb hbo hn;go_enter func7,ntmps7;go_upto_region 2 with fail
 obtain⟨q,hq⟩:=ex w.heap.size;obtain⟨wa,ea,ka,ba,sa⟩:=ax w 24 #[pt g 0] q hq;rw[ea];obtain⟨wb,eb,A4,bb,sb⟩:=ax wa 3 #[i6 0] (q+1) sa;rw[eb];obtain⟨wc,ec,kc,bc,sc⟩:=ax wb 23 #[.slice Ab n kb] (q+1+1) sb;rw[ec];obtain⟨w2,e2,k2,b2,s2⟩:=ax wc 3 #[i6 0] (q+1+1+1) sc;rw[e2,hq];have A':Below w.heap.size w wa:=hq▸ba;have A0:Below wa.heap.size wa wb:=sa▸bb;have j:Below wb.heap.size wb wc:=sb▸bc;have J:Below wc.heap.size wc w2:=sc▸b2;have A1:=A'.trans (A0.mono A'.size);have A2:=A1.trans (j.mono A1.size);have R:=A2.trans (J.mono A2.size);have kq:=((ka.ext A0).ext j).ext J;have kf:=(A4.ext j).ext J;have ks:=kc.ext J;have x0:=kq.cell 0;have A5:Bs w2 w2.heap.size (.slice Ab n kb) d:=Bs.DD HB.a (λ_ b hb _=>R.block b hb) R.size;have U:=jg R kq kf ks k2 (H.a.below R) A5;have OW:=jd (H.a.du.hi q (Nat.le_of_eq hq)) (H.a.du.hi (q+1) om) (H.a.du.hi (q+1+1) om) (H.a.du.hi (q+1+1+1) om);have A6:q≠t/\q+1≠t/\q+1+1≠t/\q+1+1+1≠t/\w.heap.size=q:=by have:=H.a.mN.lt;omega
 have HT:=ja A6;have A7:=iR U.f H.b H.c H.d 3 dc 26 #[pt q 0,pt (q+1) 0,pt (q+1+1+1) 0,pt (q+1+1) 0] L7 (MY fd fl L d) (· =0) λx c1 hA=>by have o:∀{b ty:Nat} {l:List Value},ak w2 b ty l->c.own b=0->ak x b ty l:=λ{b ty l} hk h0=>(hA.bM b hk.lt h0).1.trans hk;exact yK hA.mT (H.b.l_ hA.l_) H.e H.f q (q+1) (q+1+1+1) (q+1+1) (.slice Ab n kb) d (Bs.DD U.g (λh0 b hl hb=>(hA.bM b hl (HB.b (by rw[<-HN.a];exact h0) b hb)).1) hA.size) (oa HN.a) (o U.b OW.a) (o U.c OW.b) (o U.e OW.d) (o U.d OW.c)
 have Ar:=ja A7;clear A7 ea ka ba sa eb A4 bb sb ec kc bc sc e2 k2 b2 s2 A' A0 j J A1 A2 R kq kf ks hq A5 A6;go_wp2_with fail
 refine Ar.a.mono ?_;rintro e w3 ⟨z,rfl,rfl,hz⟩;obtain⟨c1,c2,Ax,L2,A8,F3,S3,A9,AI,As,Au,f2,rfl,AR,Aa,Ad,Ae,Ah,rfl⟩:=hz.1 rfl;have Z3:=jf A8 F3 S3 A9 AI (⟨f2,rfl,AR,Aa,Ad,Ae,Ah,rfl⟩:MY fd fl L2 d c1 c2 [fd,f2] L2);have I:∀{b ty:Nat} {l:List Value},ak w2 b ty l->c.own b=0->ak w3 b ty l:=λ{b ty l} hk h0=>(S3.bM hk.lt h0).1.trans hk;have kq:=I U.b OW.a;have kf:=I U.c OW.b;have kd:=I U.d OW.c;have kp:=I U.e OW.d;have KZ:=jd kq kf kd kp;have y0:=kq.cell 0;clear hz A8 F3 S3 A9 AI As Au AR Aa Ad Ae Ah I kq kf kd kp x0;go_upto_region 5 with fail
 refine wp_region_still_tail 9 kj kj ?_;obtain⟨w4,A3⟩:=ex ({w3 with drawn:=w3.drawn+1}:World);have b4:Below w3.heap.size w3 w4:=by subst A3;exact(Below.refl _ w3).drew
 rw[A3];have F4:=Z3.b.below b4;have x1:=F4.x1;have y1:=(KZ.a.ext b4).cell 0;have y2:=(KZ.b.ext b4).cell 0;have y3:=(KZ.c.ext b4).cell 0;have y4:=(KZ.d.ext b4).cell 0;have B':IntKind.i64.wrap (0+(n:Int))=(n:Int):=by rw[Int.zero_add,IntKind.wrap_i64];omega
 have Av:=ja (Tb.tP F4.mN (n:Int) om);have Z4:=jb F4 ((gI.of (t:=t) ((Step.below U.a c).trans Z3.c)).trans (gI.below b4 c2));clear F4 b4 A3 y0;simp only[List.take_succ_cons,List.take_zero,List.drop_succ_cons,List.drop_zero];repeat still_step
 refine wpStill_nil ?_;go_wp2_with fail
 refine Av.a.mono ?_;rintro e w5 ⟨rfl,Ao⟩;obtain⟨F5,O5⟩:=Z4.a.GY Ao;have Z5:=jb F5 (Z4.b.trans O5);clear Ao F5 O5 x1 y1 y2 y3 y4;go_wp2;go_ret;obtain⟨f9,q1,q2,q3,q4,q5,q6,_⟩:=Z3.f;exact⟨rfl,c1,c2,f2,_,Z3.a,Z5.a,Z5.b,Z3.d,Z3.e,f9,q1,q2,q3,q4,q5,q6,rfl⟩
end
end Co
namespace Co
open Go.RowKit
open EtW (dx)
open Et (E)
open Lk (fH)
attribute [local go_sem] Oper.semAt_some
section
variable {w w' w'':World} {c c' c'':C} {fs fs':List Fi} {f fd fl:Fi} {L L':List E} {g t:Nat} {o o':Option (Int×Int)}
theorem Seen.thenS {c1:C} (h1: (∃T,c1={c with av:=T}/\nj c.av T)/\af (· =c.g) w w') (h2:Seen w' c1 fs w''):Seen w c fs w'':=by obtain⟨⟨T,R,U⟩,t1⟩:=h1;obtain⟨c2,⟨j,I,J⟩,hC,t2⟩:=h2;rw[R]at I J t2;exact⟨c2,⟨j,I,U.trans J⟩,hC,t1.trans t2 λ_ e=>.inl e⟩
def NF (fl:Fi) (L':List E) (c1 c2:C) (fs2:List Fi) (L2:List E):Prop:=∃fd2 f2,fs2=[fd2,f2]/\r7 {fl with ar:=fl.ar+1} f2/\(c2.aF=c1.aF/\c2.b_=c1.b_)/\L2=L'
theorem wK (F:dw w c fs L g t o) (a s:List UInt8) (ha:Tl.dR a=true) (hza:Et.bj L a=0) (hfa:Et.dN L a=fH a) (hs:Tl.dR s=true) (hz:Et.bj L s=0) (b0 b1 b2:Nat) (k0:ak w b0 24 [pt g 0]) (k1:ak w b1 9 [.string ⟨(eG a).toArray⟩]) (k2:ak w b2 9 [.string ⟨(eG s).toArray⟩]) (o0:c.own b0=0) (o2:c.own b2=0) (R:C->C->List Fi->List E->Prop):
 Calls prog 36 #[pt b0 0,pt b1 0,pt b2 0] w (Jh w c fs L g t o R (· =7)):=by
 have HL:=ja (lS F a ha hza);rw[hfa]at HL;have x0:=k0.cell 0;have x1:=k1.cell 0;obtain⟨S1,A0⟩:=ex (⟨(eG a).toArray⟩:ByteArray);obtain⟨S2,U⟩:=ex (⟨(eG s).toArray⟩:ByteArray);rw[A0]at HL x1;rw[U]at k2;have A2:=ja U;have H:=jg F k0 k2 o0 o2 hs hz;clear F k0 k1 k2 o0 o2 hs hz hza hfa ha A0 U;go_enter func36,ntmps36;go_wp2_with fail
 refine HL.a.mono ?_;rintro e w1 ⟨rfl,I⟩;obtain⟨c1,A1,F1,T1⟩:=H.a.seen I;have j:∀b,c.own b=0->¬b=c.g:=λb h0 e=>by rw[e,H.a.du.o1]at h0;cases h0
 have k0:=T1.blk H.b (j _ H.d);have k2:=T1.blk H.c (j _ H.e);have Z1:=je A1 F1 T1 k0 k2;clear I A1 F1 T1 j k0 k2 x0 x1;unfold dx fH;go_upto_region 2 with fail
 obtain⟨q,hq⟩:=ex w1.heap.size;obtain⟨w3,e3,k3,b3,s3⟩:=ax w1 70 #[.string ⟨a.toArray⟩,i6 2,i6 1] q hq;rw[e3,hq];have J:Below w1.heap.size w1 w3:=hq▸b3;have F3:=Z1.b.below J;have y2:=k3.cell 2;have x0:=(Z1.d.ext J).cell 0;have x2:=(Z1.e.ext J).cell 0;have A':=lq F3 s H.f (.inl H.g);rw[A2.a,H.g]at A';have A3:=ja A';have Z3:=jb F3 (Z1.c.trans (af.aj (X:=(· =c.g)) J) λ_ e=>.inl e);clear A' e3 k3 b3 s3 J F3 hq;go_wp2_with fail
 refine A3.a.mono ?_;rintro e w4 ⟨_,h7,I⟩;obtain rfl:=h7 rfl;have Z4:=ja (Seen.thenS ⟨Z1.a,Z3.b⟩ I);clear h7 I y2 x0 x2;go_wp2;go_ret;exact⟨7,rfl,rfl,λe=>absurd e dc,λ_=>Z4.a⟩
theorem Cn (F:dw w c [fd,fl] L g t o) (hF:Fit c [fd,fl]) (hl0:0<=fl.ar) (hl1:fl.ar<=100) (a s:List UInt8) (ha:Tl.dR a=true) (hza:Et.bj L a=0) (hfa:Et.dN L a=fH a) (hs:Tl.dR s=true) (hz:Et.bj L s=6) (hadd:Et.fK L (fH s)=0) (hlen: (Et.eQ L (fH s)).length<=14) (b0 b1 b2:Nat) (k0:ak w b0 24 [pt g 0]) (k1:ak w b1 9 [.string ⟨(eG a).toArray⟩]) (k2:ak w b2 9 [.string ⟨(eG s).toArray⟩]) (o0:c.own b0=0) (o2:c.own b2=0) (ht:fl.vs.length<=3):
 Calls prog 36 #[pt b0 0,pt b1 0,pt b2 0] w (Jh w c [fd,fl] L g t o (NF fl (Et.eQ L (fH s))) (· =0)):=by
 have HL:=ja (lS F a ha hza);rw[hfa]at HL;have x0:=k0.cell 0;have x1:=k1.cell 0;obtain⟨S1,Ar⟩:=ex (⟨(eG a).toArray⟩:ByteArray);obtain⟨S2,A8⟩:=ex (⟨(eG s).toArray⟩:ByteArray);rw[Ar]at HL x1;rw[A8]at k2;have B2:=ja A8;have H:=jg F k0 k2 o0 o2 hs hz;have HF:=jc hF hadd hlen;clear hF hadd hlen F k0 k1 k2 o0 o2 hs hz hza hfa ha Ar A8;go_enter func36,ntmps36;go_wp2_with fail
 refine HL.a.mono ?_;rintro e w1 ⟨rfl,A0⟩;obtain⟨c1,As,F1,T1⟩:=H.a.seen A0;have U:∀b,c.own b=0->¬b=c.g:=λb h0 e=>by rw[e,H.a.du.o1]at h0;cases h0
 have k0:=T1.blk H.b (U _ H.d);have k2:=T1.blk H.c (U _ H.e);have Z1:=je As F1 T1 k0 k2;clear A0 As F1 T1 U k0 k2 x0 x1;unfold dx fH;go_upto_region 2 with fail
 obtain⟨q,hq⟩:=ex w1.heap.size;obtain⟨w3,e3,k3,b3,s3⟩:=ax w1 70 #[.string ⟨a.toArray⟩,i6 2,i6 1] q hq;rw[e3,hq];have A':Below w1.heap.size w1 w3:=hq▸b3;have F3:=Z1.b.below A';have y2:=k3.cell 2;have x0:=(Z1.d.ext A').cell 0;have x2:=(Z1.e.ext A').cell 0;have A9:=lq F3 s H.f (.inr H.g);rw[B2.a,H.g]at A9;have B3:=ja A9;have Au:c1.own q=0:=Z1.b.du.hi q (Nat.le_of_eq hq);have Z3:=je F3 (Z1.c.trans (af.aj (X:=(· =c.g)) A') λ_ e=>.inl e) k3 (Z1.d.ext A') Au;clear A9 e3 k3 b3 s3 A' F3 hq Au;go_wp2_with fail
 refine B3.a.mono ?_;rintro e w4 ⟨h6,_,A0⟩;obtain rfl:=h6 rfl;obtain⟨c4,R,F4,T4⟩:=Z3.a.seen A0;have Av:c1.g=c.g:=by obtain⟨T,h,_⟩:=Z1.a;rw[h]
 have AI:c1.own=c.own:=by obtain⟨T,h,_⟩:=Z1.a;rw[h]
 have AR:c4.own=c1.own:=by obtain⟨T,h,_⟩:=R;rw[h]
 have U:∀b,c1.own b=0->¬b=c1.g:=λb h0 e=>by rw[e,Z3.a.du.o1]at h0;cases h0
 have k0:=T4.blk Z3.d (U _ (by rw[AI];exact H.d));have kq:=T4.blk Z3.c (U _ Z3.e);have Aw:af (· =c.g) w w4:=Z3.b.trans T4 λb e=>.inl (by rw[e,Av]);have Aa:∃T,c4={c with av:=T}/\nj c.av T:=by obtain⟨T,h1,h2⟩:=Z1.a;obtain⟨T',h3,h4⟩:=R;subst h1;exact⟨T',h3,h2.trans h4⟩
 have Ax:Step w c w4 c4:=H.a.du.step Aw (by obtain⟨T,h,_⟩:=Aa;rw[h]);have Z4:=jg F4 Aa Ax k0 kq (by rw[AR,AI];exact H.d:c4.own b0=0) (by rw[AR];exact Z3.e:c4.own q=0);clear h6 A0 R F4 T4 Av AI AR U k0 kq Aw Aa Ax y2 x0 x2;go_upto_region 9 with fail
 refine wp_region_still_tail 6 kj kj ?_;obtain⟨w5,Ab⟩:=ex ({w4 with drawn:=w4.drawn+1}:World);have b5:Below w4.heap.size w4 w5:=by subst Ab;exact(Below.refl _ w4).drew
 rw[Ab];have F5:=Z4.a.below b5;have x0:=F5.x0;have x1:=(Z4.d.ext b5).cell 0;have y1:=(Z4.e.ext b5).cell 1;have B':Calls prog 38 #[pt c4.g 0,i6 2,i6 1] w5 (ub w5 c4 [fd,fl] 1 fl 1):=gY F5.du 1 fl rfl dc 2 rfl 1 hl0 om om om;have Z5:=je F5 (Z4.c.trans (Step.below b5 c4)) (Z4.d.ext b5) (Z4.e.ext b5) B';clear F5 b5 Ab B';simp only[List.take_succ_cons,List.take_zero,List.drop_succ_cons,List.drop_zero];repeat still_step
 refine wpStill_nil ?_;go_wp2_with fail
 refine Z5.e.mono ?_;rintro e w6 ⟨c6,f6,rfl,B0,⟨B6,I⟩,A2,A1⟩;replace A2:bD w6 c6 [fd,f6]:=A2;obtain⟨f0,B1,Ad⟩:=H.a.dir;obtain rfl:fd=f0:=Option.some.inj B1;have F6:=Z5.a.move A2 A1 (by rw[I]) (by rw[I]) ⟨fd,rfl,Ad⟩;have k0:ak w6 b0 _ _:=(A1.bM Z5.c.lt Z4.f).1.trans Z5.c;have kq:ak w6 q _ _:=(A1.bM Z5.d.lt Z4.g).1.trans Z5.d;have Z6:=jg F6 (Z5.b.trans A1) k0 kq B0 I Ad;clear B0 I A2 A1 B1 Ad F6 k0 kq x0 x1 y1;go_upto_region 12 with fail
 refine wp_region_still_tail 11 kj kj ?_;obtain⟨w7,Ae⟩:=ex ({w6 with drawn:=w6.drawn+1}:World);have b7:Below w6.heap.size w6 w7:=by subst Ae;exact(Below.refl _ w6).drew
 rw[Ae];have F7:=Z6.a.below b7;have x0:=F7.x0;have x1:=(Z6.c.ext b7).cell 0;have y1:=(Z6.d.ext b7).cell 1;have y2:=(Z6.d.ext b7).cell 2;have B8:∀V:World,(Instr.build 70 #[(0,.string ⟨s.toArray⟩),(1,i6 2),(2,i6 1)]).run prog V=.ok (.agg #[.string ⟨s.toArray⟩,i6 2,i6 1]) V:=λV=>run_build V 70 _ _ kj;have Ah:=uH F7.du rfl Z6.g (fH s) (by have:=(Tl.e_ s).1 H.f;show s.length<=100000;omega);rw[HF.b]at Ah;have B4:=ja (show Calls prog 39 #[pt c6.g 0,i6 1,.agg #[.string ⟨s.toArray⟩,i6 2,i6 1]] w7 (FI w7 c6 [fd,f6] (Et.eQ L (fH s)) 0)from Ah);have Z7:=jb F7 (Z6.b.trans (Step.below b7 c6));clear Ah F7 b7 Ae;simp only[List.take_succ_cons,List.take_zero,List.drop_succ_cons,List.drop_zero];repeat still_step
 refine wpStill_nil ?_;go_wp2_with fail
 refine B4.a.mono ?_;rintro e w8 ⟨rfl,_,A7⟩;obtain⟨c8,A3,j,⟨B7,T8,J,A4⟩,A5,Ao⟩:=A7 rfl;replace A5:bD w8 c8 [A3,f6]:=A5;have F8:=Z7.a.move A5 Ao (by rw[J]) (by rw[J]) ⟨A3,rfl,j⟩;have Z8:=Lib.hid (⟨F8,Z7.b.trans Ao,j,J,A4⟩:_/\_/\_/\_/\_);clear A7 j J A4 A5 Ao F8 x0 x1 y1 y2;go_wp2;go_ret;obtain⟨F8,S8,j,J,A4⟩:=Z8.out;obtain⟨T4,R,B5⟩:=Z4.b;have I:=Z6.f;have A6:=HF.a;refine⟨0,rfl,rfl,λ_=>⟨c8,[A3,f6],Et.eQ L (fH s),F8,S8,⟨by show 2<=2;decide,λf' Aq=>?_,by rw[J,I,R];exact A6.cL,by rw[J,I,R];exact A6.b_,⟨by rw[J,I,R];exact A6.one.1,?_⟩⟩,by rw[J,I,R],by rw[J,I,R],by rw[J,I,R],A3,f6,rfl,Z6.e,⟨by rw[J,I,R],by rw[J,I,R]⟩,rfl⟩,λe=>absurd rfl e⟩
 ·rcases List.mem_cons.1 Aq with rfl|Aq
  ·rw[j.v];refine Fit.nb ?_;rw[j.d];have h1:=mi j.may;have h3:=HF.c;omega
  ·obtain rfl:=List.mem_singleton.1 Aq;rw[Z6.e.vs];exact ht
 ·rw[J];refine A4 ?_;rw[I,R];exact B5 A6.one.2
theorem Ll:∀args x,(callFunc 36 args).run prog x=.ok (.enter 36 args) x:=λargs x=>by have h:=func36;go_simp
def wA (w:World) (c:C) (g t:Nat) (o:Option (Int×Int)) (R:C->C->List Fi->List E->Prop) (w':World):Prop:=∃c1 c2 fs2 L2,kH c c1/\dw w' c2 fs2 L2 g t o/\gI t w c w' c2/\Fit c2 fs2/\c2.age=c.age+1/\R c1 c2 fs2 L2
def My (w:World) (c:C) (fs:List Fi) (L:List E) (g t:Nat) (o:Option (Int×Int)) (w':World):Prop:=∃c2,kH c c2/\dw w' c2 fs L g t o/\gI t w c w' c2/\c2.age=c.age+2
theorem pY.ok {R:C->C->List Fi->List E->Prop} (h:pY w c fs L g t o R 0 w'):wA w c g t o R w':=by obtain⟨c1,c2,I,L2,J,U,j,h4,h5,_,_,h6⟩:=h.1 rfl;exact⟨c1,c2,I,L2,J,U,.of j,h4,h5,h6⟩
theorem pY.no {R:C->C->List Fi->List E->Prop} {z:Int} (h:pY w c fs L g t o R z w') (hz:z≠0):My w c fs L g t o w':=by obtain⟨c2,I,J,U,j⟩:=h.2 hz;exact⟨c2,I,J,.of U,j⟩
theorem rb (F:dw w c fs L g t o) (hF:Fit c fs) (ha:0<=c.age) (ha1:c.age<=900000) (a s:List UInt8) (z:Int) (R:C->C->List Fi->List E->Prop)
 (hdo:∀(x:World) (c1:C) (b0 b1 b2:Nat),dw x c1 fs L g t o->kH c c1->ak x b0 24 [pt g 0]->ak x b1 9 [.string ⟨(eG a).toArray⟩]->ak x b2 9 [.string ⟨(eG s).toArray⟩]->c1.own b0=0->c1.own b2=0->Calls prog 36 #[pt b0 0,pt b1 0,pt b2 0] x (Jh x c1 fs L g t o R (· =z))):
 Calls prog 10 #[pt g 0,.string ⟨(eG a).toArray⟩,.string ⟨(eG s).toArray⟩] w λe w'=>e=.returned (i6 z)/\pY w c fs L g t o R z w':=by
 have H:=je F hF ha ha1 hdo;have A7:∀(fn:Fn) (first cap:Array Value) (w:World),(Instr.makeFunc fn first cap).run prog w=.ok (.func fn first cap) w:=λ_ _ _ _=>rfl;clear F hF ha ha1 hdo;obtain⟨S1,j⟩:=ex (⟨(eG a).toArray⟩:ByteArray);obtain⟨S2,A'⟩:=ex (⟨(eG s).toArray⟩:ByteArray);rw[j,A'];have A2:=jb j A';clear j A';go_enter func10,ntmps10;go_upto_region 1 with fail
 obtain⟨q,hq⟩:=ex w.heap.size;obtain⟨wa,ea,ka,ba,sa⟩:=ax w 24 #[pt g 0] q hq;rw[ea];obtain⟨wb,eb,kb,bb,sb⟩:=ax wa 9 #[.string S1] (q+1) sa;rw[eb];obtain⟨w2,e2,k2,b2,s2⟩:=ax wb 9 #[.string S2] (q+1+1) sb;rw[e2,hq];have I:Below w.heap.size w wa:=hq▸ba;have J:Below wa.heap.size wa wb:=sa▸bb;have U:Below wb.heap.size wb w2:=sb▸b2;have A0:=(I.trans (J.mono I.size)).trans (U.mono (Nat.le_trans I.size J.size));have kq:=(ka.ext J).ext U;have ks:=kb.ext U;have x0:=kq.cell 0;have KK:=je A0 kq ks k2 (H.a.below A0);have OW:=jc (H.a.du.hi q (Nat.le_of_eq hq)) (H.a.du.hi (q+1) om) (H.a.du.hi (q+1+1) om);have A3:=iR KK.e H.b H.c H.d 3 dc 36 #[pt q 0,pt (q+1) 0,pt (q+1+1) 0] Ll R (· =z) λx c1 hA=>by have A1:∀{b ty:Nat} {l:List Value},ak w2 b ty l->c.own b=0->ak x b ty l:=λ{b ty l} hk h0=>(hA.bM b hk.lt h0).1.trans hk;have A4:=A1 KK.c OW.b;have A5:=A1 KK.d OW.c;rw[<-A2.a]at A4;rw[<-A2.b]at A5;exact H.e x c1 q (q+1) (q+1+1) hA.mT hA.l_ (A1 KK.b OW.a) A4 A5 (hA.bM q KK.b.lt OW.a).2 (hA.bM _ KK.d.lt OW.c).2
 have A6:=ja A3;clear A3 ea ka ba sa eb kb bb sb e2 k2 b2 s2 I J U A0 kq ks hq;go_wp2_with fail
 refine A6.a.mono ?_;rintro e w3 ⟨z',rfl,rfl,hz⟩;have HZ:=ja (hz.behind KK.a);clear hz x0;go_wp2;go_ret;exact⟨rfl,HZ.a⟩
end
end Co
namespace Co
open Go.RowKit
open EtW (dx)
open Et (E)
open Lk (fH)
attribute [local go_sem] Oper.semAt_some
section
variable {w w' w'':World} {c c' c'':C} {fs fs':List Fi} {f fd fl:Fi} {L L':List E} {g t:Nat} {o o':Option (Int×Int)}
def Js (fl:Fi) (L':List E) (c1 c2:C) (fs2:List Fi) (L2:List E):Prop:=(1<fl.ar->∃fd2 f2,fs2=[fd2,f2]/\r7 {fl with ar:=fl.ar+-1} f2/\(c2.aF=c1.aF/\c2.b_=c1.b_))/\(fl.ar=1->∃fd2,fs2=[fd2])/\L2=L'
theorem ld (F:dw w c [fd,fl] L g t none) (hF:Fit c [fd,fl]) (hl0:1<=fl.ar) (hl1:fl.ar<=100) (m:List Im.Sl) (hm:m.length=40) (hs:c.aF=ImW.ag m) (hd:Im.dY m 2≠0) (hgn:c.b_.length<=50) (s:List UInt8) (hn:s.length<=60) (hz:Et.bj L s=0) (hlen: (Et.cT L s).length<=14) (hvl:fl.vs.length<=3):
 Calls prog 43 #[pt g 0,i6 1,dx (fH s)] w (Jh w c [fd,fl] L g t none (Js fl (Et.cT L s)) (· =0)):=by
 have H:=jh F hF hm hs hd hgn hlen hvl;have HZ:=ja hz;clear F hF hm hs hd hgn hz hlen hvl;unfold dx fH;go_enter func43,ntmps43;go_upto_region 1 with fail
 obtain⟨q,hq⟩:=ex w.heap.size;obtain⟨w1,e1,k1,b1,s1⟩:=ax w 70 #[.string ⟨s.toArray⟩,i6 2,i6 1] q hq;rw[e1,hq];have A8:Below w.heap.size w w1:=hq▸b1;have Aa:c.own q=0:=H.a.du.hi q (Nat.le_of_eq hq);have Z1:=jd (H.a.below A8) k1 A8 Aa;clear e1 k1 b1 s1 A8 hq Aa;refine wp_region_still_tail 7 kj kj ?_;obtain⟨w2,A9⟩:=ex ({w1 with drawn:=w1.drawn+1}:World);have b2:Below w1.heap.size w1 w2:=by subst A9;exact(Below.refl _ w1).drew
 rw[A9];have F2:=Z1.a.below b2;have x0:=F2.x0;have y0:=(Z1.b.ext b2).cell 0;obtain⟨Ar,Ab,hD⟩:=H.a.dir;obtain rfl:fd=Ar:=Option.some.inj Ab;have HT:=ja (Bz F2.du rfl hD s om HZ.a);have Z2:=jc F2 (Z1.b.ext b2) (Z1.c.trans (b2.mono Z1.c.size));clear F2 b2 A9 Ab hD;simp only[List.take_succ_cons,List.take_zero,List.drop_succ_cons,List.drop_zero];repeat still_step
 refine wpStill_nil ?_;go_wp2_with fail
 refine HT.a.mono ?_;rintro e w3 ⟨rfl,c3,I,AI,⟨As,T3,A1,Ad⟩,A2,o⟩;replace A2:bD w3 c3 [I,fl]:=A2;have F3:=Z2.a.move A2 o (by rw[A1]) (by rw[A1]) ⟨I,rfl,AI⟩;have kq:ak w3 q _ _:=(o.bM Z2.b.lt Z1.d).1.trans Z2.b;have q3:=(o.bM Z2.b.lt Z1.d).2;have U:=jg F3 kq ((Step.below Z2.c c).trans o) AI A1 Ad q3;clear AI A1 Ad A2 o F3 kq q3 x0 y0;go_upto_region 4 with fail
 refine wp_region_still_tail 6 kj kj ?_;obtain⟨w4,AR⟩:=ex ({w3 with drawn:=w3.drawn+1}:World);have b4:Below w3.heap.size w3 w4:=by subst AR;exact(Below.refl _ w3).drew
 rw[AR];have F4:=U.a.below b4;have x0:=F4.x0;have y1:=(U.b.ext b4).cell 1;have Ae:Calls prog 38 #[pt c3.g 0,i6 2,i6 (-1)] w4 (ub w4 c3 [I,fl] 1 fl (-1)):=gY F4.du 1 fl rfl dc 2 rfl (-1) om om om om;have Z4:=jd F4 (U.b.ext b4) (U.c.trans (Step.below b4 c3)) Ae;clear F4 b4 AR Ae;simp only[List.take_succ_cons,List.take_zero,List.drop_succ_cons,List.drop_zero];repeat still_step
 refine wpStill_nil ?_;go_wp2_with fail
 refine Z4.d.mono ?_;rintro e w5 ⟨c5,f5,rfl,Ah,⟨A6,A3⟩,A4,A5⟩;replace A4:bD w5 c5 [I,f5]:=A4;have F5:=Z4.a.move A4 A5 (by rw[A3]) (by rw[A3]) ⟨I,rfl,U.d⟩;have kq:ak w5 q _ _:=(A5.bM Z4.b.lt U.g).1.trans Z4.b;have y1:=kq.cell 1;have j:c5={c with own:=A6,av:=T3}:=by rw[A3,U.e]
 have R:=jd F5 (Z4.c.trans A5) Ah j;clear Ah A3 A4 A5 F5 kq j x0;have A7:∀f'∈[I,f5],f'.vs.length<=3:=λf' A'=>by
  rcases List.mem_cons.1 A' with rfl|A'
  ·rw[U.d.v];refine Fit.nb ?_;rw[U.d.d];have h1:=mi U.d.may;have h3:=H.g;omega
  ·obtain rfl:=List.mem_singleton.1 A';rw[R.c.vs];exact H.h
 have Ao:=ja A7;clear A7;by_cases h1:fl.ar=1
 ·have A0:f5.ar=0:=(by rw[R.c.ar];show fl.ar+-1=0;omega);have HR:=ja (rX R.a A0 m H.c (by rw[R.d];exact H.d) H.e (by rw[R.d];exact Nat.le_trans H.f dc));clear A0;(go_wp2_with fail);refine HR.a.mono ?_;rintro e w6 ⟨rfl,c6,Aq,F6,S6⟩;have Z6:=jc Aq F6 S6;clear Aq F6 S6 y1;go_wp2;go_ret;have e6:c6={c with own:=A6,av:=T3.set 2 (i6 0),b_:=dk c.b_ 2 (.agg #[])}:=(by rw[Z6.a,R.d]);have J:=H.b;refine⟨0,rfl,rfl,λ_=>⟨c6,[I],Et.cT L s,Z6.b,R.b.trans Z6.c,⟨by show 1<=2;decide,λf' A'=>Ao.a f' (by rw[List.mem_singleton.1 A'];exact List.mem_cons_self),by rw[e6];exact J.cL,?_,⟨by rw[e6];exact J.one.1,?_⟩⟩,by rw[e6],by rw[e6],by rw[e6],λe=>absurd e om,λ_=>⟨I,rfl⟩,rfl⟩,λe=>absurd rfl e⟩
  ·rw[e6];have Au:=H.f;refine⟨Nat.le_trans (zR _ _ _) om,λy hy=>?_⟩;rcases j6.1 (show y∈dO ((2:Int),.agg #[]) (bf c.b_ 2)from hy)with rfl|hy
   ·decide
   ·exact J.b_.2 y (j5.1 hy).1
  ·rw[e6];exact nj.set T3 2 0 (U.f J.one.2)
 ·have A0:0<f5.ar:=(by rw[R.c.ar];show 0<fl.ar+-1;omega);have HR:=ja (np R.a A0);clear A0;(go_wp2_with fail);refine HR.a.mono ?_;rintro e w6 ⟨rfl,b6⟩;have Z6:=jb (R.a.below b6) (R.b.trans (Step.below b6 c5));clear b6 y1;go_wp2;go_ret;have J:=H.b;have j:=R.d;refine⟨0,rfl,rfl,λ_=>⟨c5,[I,f5],Et.cT L s,Z6.a,Z6.b,⟨by show 2<=2;decide,Ao.a,by rw[j];exact J.cL,by rw[j];exact J.b_,⟨by rw[j];exact J.one.1,?_⟩⟩,by rw[j],by rw[j],by rw[j],λ_=>⟨I,f5,rfl,R.c,⟨by rw[j],by rw[j]⟩⟩,λe=>absurd e h1,rfl⟩,λe=>absurd rfl e⟩;rw[j];exact U.f J.one.2
theorem vy (F:dw w c [fd,fl] L g t none) (hF:Fit c [fd,fl]) (hl0:1<=fl.ar) (hl1:fl.ar<=100) (m:List Im.Sl) (hm:m.length=40) (hs:c.aF=ImW.ag m) (hd:Im.dY m 2≠0) (hgn:c.b_.length<=50) (s:List UInt8) (hn:Tl.dR s=true) (hz:Et.bj L s=0) (hfn:Et.dN L s=fH s) (hlen: (Et.cT L s).length<=14) (hvl:fl.vs.length<=3) (b0 b1:Nat) (k0:ak w b0 24 [pt g 0]) (k1:ak w b1 9 [.string ⟨(eG s).toArray⟩]) (o0:c.own b0=0):
 Calls prog 41 #[pt b0 0,pt b1 0] w (Jh w c [fd,fl] L g t none (Js fl (Et.cT L s)) (· =0)):=by
 have HN:=ja (Bp F s hn hz);rw[hfn]at HN;have x0:=k0.cell 0;have x1:=k1.cell 0;obtain⟨S,hS⟩:=ex (⟨(eG s).toArray⟩:ByteArray);rw[hS]at HN x1;have R:s.length<=60:=by have:=(Tl.e_ s).1 hn;omega
 have H:=jl F hF hm hs hd hgn hlen hvl k0 o0 hz R;clear F hF hm hs hd hgn hlen hvl k0 k1 o0 hz hfn hn hS R;go_enter func41,ntmps41;go_wp2_with fail
 refine HN.a.mono ?_;rintro e w1 ⟨rfl,A'⟩;obtain⟨c1,⟨T1,o,A0⟩,F1,t1⟩:=H.a.seen A';have k0:=t1.blk H.i λe=>by have h0:=H.j;rw[e,H.a.du.o1]at h0;cases h0
 have S1:Step w c w1 c1:=H.a.du.step t1 (by rw[o]);have Z1:=je F1 S1 o A0 k0;clear A' o A0 F1 t1 S1 k0 x0 x1;unfold dx fH;go_upto_region 2 with fail
 obtain⟨q,hq⟩:=ex w1.heap.size;obtain⟨w3,e3,k3,b3,s3⟩:=ax w1 70 #[.string ⟨s.toArray⟩,i6 2,i6 1] q hq;rw[e3,hq];have J:Below w1.heap.size w1 w3:=hq▸b3;have F3:=Z1.a.below J;have y0:=k3.cell 0;have y1:=k3.cell 1;have y2:=k3.cell 2;have x0:=(Z1.e.ext J).cell 0;have I:=Z1.c;have A1:Fit c1 [fd,fl]:=by have h:=H.b;rw[I];exact⟨h.gM,h.vs,h.cL,h.b_,h.one.1,Z1.d h.one.2⟩
 have HU:=ja (ld F3 A1 hl0 hl1 m H.c (by rw[I];exact H.d) H.e (by rw[I];exact H.f) s H.l H.k H.g H.h);have Z3:=ja (Z1.b.trans (Step.below J c1));clear e3 k3 b3 s3 J F3 hq I A1;unfold dx fH at HU;go_wp2_with fail
 refine HU.a.mono ?_;rintro e w4 ⟨z,rfl,rfl,h0,_⟩;obtain⟨c4,A3,L4,F4,S4,A2,a4,k4,g4,hR⟩:=h0 rfl;have U:=jh F4 (Z3.a.trans S4) A2 a4 k4 g4 hR.1 hR.2.1;obtain rfl:=hR.2.2;clear h0 F4 S4 A2 a4 k4 g4 hR y0 y1 y2 x0;go_wp2;go_ret;have I:=Z1.c;refine⟨0,rfl,rfl,λ_=>⟨c4,A3,_,U.a,U.b,U.c,by rw[U.d,I],by rw[U.e,I],by rw[U.f,I],λh=>?_,U.h,rfl⟩,λe=>absurd rfl e⟩;obtain⟨A4,f2,q1,q2,q3⟩:=U.g h;exact⟨A4,f2,q1,q2,⟨by rw[q3.1,I],by rw[q3.2,I]⟩⟩
theorem KH:∀args x,(callFunc 41 args).run prog x=.ok (.enter 41 args) x:=λargs x=>by have h:=func41;go_simp
theorem wi (F:dw w c [fd,fl] L g t none) (hF:Fit c [fd,fl]) (ha:0<=c.age) (ha1:c.age<=900000) (hl0:1<=fl.ar) (hl1:fl.ar<=100) (m:List Im.Sl) (hm:m.length=40) (hs:c.aF=ImW.ag m) (hd:Im.dY m 2≠0) (hgn:c.b_.length<=50) (s:List UInt8) (hn:Tl.dR s=true) (hz:Et.bj L s=0) (hfn:Et.dN L s=fH s) (hlen: (Et.cT L s).length<=14) (hvl:fl.vs.length<=3):
 Calls prog 13 #[pt g 0,.string ⟨(eG s).toArray⟩] w λe w'=>e=.returned (i6 0)/\wA w c g t none (Js fl (Et.cT L s)) w':=by
 have H:=Lib.hid (⟨F,hF,ha,ha1,hm,hs,hd,hgn,hn,hz,hfn,hlen,hvl⟩:_/\_/\_/\_/\_/\_/\_/\_/\_/\_/\_/\_/\_);have A4:∀(fn:Fn) (first cap:Array Value) (w:World),(Instr.makeFunc fn first cap).run prog w=.ok (.func fn first cap) w:=λ_ _ _ _=>rfl;clear F hF ha ha1 hm hs hd hgn hn hz hfn hlen hvl;obtain⟨S,hS⟩:=ex (⟨(eG s).toArray⟩:ByteArray);rw[hS];have A2:=ja hS;clear hS;go_enter func13,ntmps13;go_upto_region 1 with fail
 obtain⟨q,j⟩:=ex w.heap.size;obtain⟨wa,ea,ka,ba,sa⟩:=ax w 24 #[pt g 0] q j;rw[ea];obtain⟨w2,e2,k2,b2,s2⟩:=ax wa 9 #[.string S] (q+1) sa;rw[e2,j];have I:Below w.heap.size w wa:=j▸ba;have J:Below wa.heap.size wa w2:=sa▸b2;have R:=I.trans (J.mono I.size);have kq:=ka.ext J;have x0:=kq.cell 0;have o:=jd R kq k2 (H.out.1.below R);have OW:=jb (H.out.1.du.hi q (Nat.le_of_eq j)) (H.out.1.du.hi (q+1) om);have A':=iR o.d H.out.2.1 H.out.2.2.1 H.out.2.2.2.1 1 dc 41 #[pt q 0,pt (q+1) 0] KH (Js fl (Et.cT L s)) (· =0) λx c1 U=>by have A0:∀{b ty:Nat} {l:List Value},ak w2 b ty l->c.own b=0->ak x b ty l:=λ{b ty l} hk h0=>(U.bM b hk.lt h0).1.trans hk;have A1:=A0 o.c OW.b;rw[<-A2.a]at A1;have h:=H.out.2.2.2.2;exact vy U.mT (H.out.2.1.l_ U.l_) hl0 hl1 m h.1 (U.l_.aF.trans h.2.1) h.2.2.1 (by rw[U.l_.b_];exact h.2.2.2.1) s h.2.2.2.2.1 h.2.2.2.2.2.1 h.2.2.2.2.2.2.1 h.2.2.2.2.2.2.2.1 h.2.2.2.2.2.2.2.2 q (q+1) (A0 o.b OW.a) A1 (U.bM q o.b.lt OW.a).2
 have A3:=ja A';clear A' ea ka ba sa e2 k2 b2 s2 I J R kq j;go_wp2_with fail
 refine A3.a.mono ?_;rintro e w3 ⟨z,rfl,rfl,hz⟩;have HZ:=ja (hz.behind o.a).ok;clear hz x0;go_wp2;go_ret;exact⟨rfl,HZ.a⟩
end
end Co
namespace Co
open Go.RowKit
open Dv (Md D)
section
variable {w w':World} {c:C} {f:Fi} {X:Nat->Prop} {m:Nat}
structure MS (w0 w:World) (c:C) (f:Fi) (g t:Nat):Prop where
 mT:dw w c [f] [] g t none
 fit:Fit c [f]
 sl:∃sm,sm<4294967296/\c.aF=ImW.ag (m1.set 1 ⟨2,sm,(Im.at_ m1 1).v⟩)
 age:0<=c.age/\c.age<=10
 b_:c.b_=[]
 own:∀b,b<w0.heap.size->c.own b=0
 new:w0.heap.size<=t
theorem DA (d:D) (hm:Md w X m d) (hd:d.qs=[]) (hXl:∀b,X b->b<w.heap.size) (hXg:∀b,b<=1->¬X b) (hw1:1<w.heap.size) (hH:a7 w) (hR:nW w):
 Calls prog 19 #[pt m 0] w λe w'=>∃c f g t,e=.returned (.tuple #[pt g 0,i6 0])/\MS w w' c f g t/\af X w w':=by
 have HM:=ja (DS d hm hd hXl hXg hw1 hH hR);have HW:=ja hw1;clear hm hd hXl hXg hw1 hH hR;go_enter func19,ntmps19;go_wp2_with fail
 refine HM.a.mono ?_;rintro e w1 ⟨c,f,rfl,I,ho,U⟩;have Z1:=Lib.hid (⟨I,ho,U⟩:_/\_/\_);clear I ho U;go_wp2_with fail
 refine(Tb.iF w1).mono ?_;rintro e w2 ⟨rfl,j,J,R⟩;obtain⟨t,o⟩:=ex w1.heap.size;rw[o]at j|-;have Z2:=Lib.hid (⟨j,J,R,o⟩:_/\_/\_/\_);clear j J R o;go_wp2;go_ret2;obtain⟨I,ho,U⟩:=Z1.out;obtain⟨j,J,R,o⟩:=Z2.out;obtain⟨w3,e3,k3,b3,s3⟩:=ax w2 67 #[pt c.g 0,pt t 0] _ rfl;rw[e3];have A':=R.trans (b3.mono R.size);have A2:=U.size;refine⟨c,f,w2.heap.size,t,rfl,⟨⟨I.du.below A',k3,j.ext b3,I.du.hi _ R.size,I.du.hi _ (Nat.le_of_eq o),I.iN,⟨f,rfl,I.dir⟩⟩,⟨by show 1<=2;decide,λf' A0=>?_,I.cL,?_,?_,I.Mm⟩,I.sl,I.age,I.b_,ho,by omega⟩,U.trans (af.aj (X:=X) A') λ_ e=>.inl e⟩
 ·obtain rfl:=List.mem_singleton.1 A0;rw[I.dir.v,I.dir.d];decide
 ·rw[I.b_];exact⟨by decide,λy hy=>by cases hy⟩
 ·obtain⟨sm,_,A1⟩:=I.sl;rw[A1];exact rJ _
theorem F9 (hw1:1<w.heap.size) (hH:a7 w) (hR:nW w):
 Calls prog 4 #[i6 20] w λe w'=>∃c f g t v1 v2,e=.returned (.tuple #[pt g 0,v1,v2])/\MS w w' c f g t/\Below w.heap.size w w':=by
 have HW:=jc hw1 hH hR;clear hw1 hH hR;have A2:Calls prog 17 #[i6 336] w (Dv.qo w 336):=Dv.iF w 336 dc dc;go_enter func4,ntmps4;go_wp2_with fail
 refine A2.mono ?_;rintro e w1 ⟨d,rfl,A3,A4,b1⟩;have Z1:=jc A3 A4 b1;have A5:Calls prog 17 #[i6 65] w1 (Dv.qo w1 65):=Dv.iF w1 65 dc dc;clear A2 A3 A4 b1;go_wp2_with fail
 refine A5.mono ?_;rintro e w2 ⟨v,rfl,A6,A7,b2⟩;have Z2:=jc A6 A7 b2;clear A5 A6 A7 b2;go_upto_region 5 with fail
 have h1:=HW.a;obtain⟨q,hq⟩:=ex w2.heap.size;obtain⟨w3,e3,k3,b3,s3⟩:=ax w2 25 #[pt v.g 0] q hq;have j:Below w2.heap.size w2 w3:=hq▸b3;have A':=Z2.c.trans (j.mono Z2.c.size);have o:=Z1.c.trans (A'.mono Z1.c.size);have hA:Dv.At w3 (λb=>w.heap.size<=b/\b<w1.heap.size) d:=Z1.b.bU (af.aj (X:=λ_=>False) A') λ_ _ _ e=>e;have hV:Dv.At w3 (λb=>w1.heap.size<=b/\b<w2.heap.size) v:=Z2.b.bU (af.aj (X:=λ_=>False) j) λ_ _ _ e=>e;have s1:=Z1.c.size;have s2:=Z2.c.size;have Ad:=j.size;have A0:a7 w3:=λk hk=>cl o (by show 1<w.heap.size;exact h1) (HW.b k hk);have A8:nW w3:=λk n hn=>cl o (by show 0<w.heap.size;omega) (HW.c k n hn);have Ae:=ja (Dv.yz hA hV Z1.a Z2.a (λb U=>⟨by omega,by omega⟩) (λb U=>by omega) (b:=q) (c:=1) dc (by rw[aq];decide) (k3.cell 0) ⟨by omega,by omega⟩ A0 (λb U=>⟨by omega,by omega⟩));have Z3:=je o A0 A8 hq e3;clear k3 b3 s3 j A' o hA hV A0 A8 s1 s2 Ad h1 hq;go_wp2_with fail
 try rw[e3]
 rw[Z3.d];clear e3;refine Ae.a.mono ?_;rintro e w4 ⟨m,d4,X4,rfl,J,A9,AI,Ah,A1⟩;have Ao:=Z3.a.size;have Aq:=A1.size;have h1:=HW.a;have s1:=Z1.c.size;have I:Below w.heap.size w w4:=((af.aj (X:=λb=>w.heap.size<=b) Z3.a).trans A1 λb e=>.inl om).bm lh λ_ e=>e;have R:∀b,X4 b->w.heap.size<=b:=λb U=>(AI b U).elim (λe=>e.1) λe=>by omega
 have AR:a7 w4:=λk hk=>cl I (by show 1<w.heap.size;exact h1) (HW.b k hk);have Aa:nW w4:=λk n hn=>cl I (by show 0<w.heap.size;omega) (HW.c k n hn);have Ar:=ja (DA d4 (Md.least J) A9 (λb U=>Md.pF J U) (λb U e=>by have:=R b (Md.me J e);omega) om AR Aa);have Z4:=ja (⟨I,λb U=>R b (Md.me J U)⟩:_/\(∀b,xS d4 b->w.heap.size<=b));clear J A9 AI Ah A1 Ao Aq h1 s1 I R AR Aa;go_wp2_with fail
 refine Ar.a.mono ?_;rintro e w5 ⟨c,f,g,t,rfl,hE,Ab⟩;have I:=((af.aj (X:=λb=>w.heap.size<=b) Z4.a.1).trans Ab λb e=>.inl (Z4.a.2 b e)).bm lh λ_ e=>e;have As:=Z4.a.1.size;have Z5:=ja (show MS w w5 c f g t/\Below w.heap.size w w5 from⟨⟨hE.mT,hE.fit,hE.sl,hE.age,hE.b_,λb U=>hE.own b om,by have:=hE.new;omega⟩,I⟩);clear hE Ab I As;go_wp2;go_ret3;exact⟨c,f,g,t,_,_,rfl,Z5.a.1,Z5.a.2⟩
end
end Co
namespace Co
open Go.RowKit
section
variable {w w':World}
theorem CX (b1 o1 c1 b2 o2 c2:Nat) (h1:∀(j:Nat) v,[i6 6,i6 0][j]? =some v->w.cell? (ae b1 (o1+j))=some v) (h2:∀(j:Nat) v,[i6 6,i6 0][j]? =some v->w.cell? (ae b2 (o2+j))=some v) (l1:b1<w.heap.size) (l2:b2<w.heap.size):
 Calls prog 47 #[.slice (some ⟨b1,o1,none⟩) 2 c1,.slice (some ⟨b2,o2,none⟩) 2 c2] w λe w'=>e=.returned (.bool true)/\Bw w w':=by
 have H:=jb h1 h2;clear h1 h2;go_enter func47,ntmps47;go_wp2;go_loopw [5] (λu wr=>∃k:Nat,k<=2/\u=i6 (k:Int)/\Bw w wr) (λu _=>2-(intOf u).toNat)
 case atStart=>exact⟨0,by decide,rfl,Below.refl _ _⟩
 case round=>
  obtain⟨k,hk,rfl,o⟩:=hrel;have R:=ja o;clear o;by_cases A':k<2
  ·obtain⟨v,U⟩:∃v:Int,[i6 6,i6 0][k]? =some (i6 v):=by
    rcases(show k=0\/k=1 by omega)with rfl|rfl
    ·exact⟨6,rfl⟩
    ·exact⟨0,rfl⟩
   (go_upto_region 6 with fail);refine wp_region_still_tail 8 kj kj ?_;obtain⟨w4,J⟩:=ex ({wr with drawn:=wr.drawn+1}:World);have b4:Bw wr w4:=(by subst J;exact(Below.refl _ wr).drew);rw[J];have I:=R.a.trans (b4.mono R.a.size);have x1:=cl I l1 (H.a k _ U);have x2:=cl I l2 (H.b k _ U);have Z4:=ja I;clear I b4 J U;simp only[td];(repeat still_step);refine wpStill_nil ?_;go_wp2;go_roundw;case rel=>exact⟨k+1,by omega,by go_num,Z4.a⟩
   case measure=>exact ms
  ·obtain rfl:k=2:=(by omega);go_wp2;go_ret;exact⟨rfl,R.a⟩
theorem B_ (hw1:1<w.heap.size) (hH:a7 w) (hR:nW w):Calls prog 16 #[] w λe w'=>e=.returned (.bool true)/\Below w.heap.size w w':=by
 have HP:=ja (Rc.vK hR 6 dc);have HW:=jb hw1 hH;clear hw1 hH hR;obtain⟨AR,A3,A9⟩:∃AR:Array Value,AR.toList=NdW.aZ (List.replicate 15 (0,0))/\∀W:World,(Instr.makeSlice 114 (i6 15) (i6 15)).run prog W=.ok (.slice (some ⟨W.heap.size,0,none⟩) 15 15) (W.alloc (.cells AR 38)):=⟨_,rfl,λW=>by kernel_rfl⟩;go_enter func16,ntmps16;go_wp2_with fail
 refine HP.a.mono ?_;rintro e w1 ⟨u,rfl,ho,b1⟩;have R:w1.ownsRow w.heap.size 3 1 u 2 (ints [6,0]):=ho;obtain⟨A,c,rfl⟩:=Dv.aX R;obtain⟨A',c',e1,_,_,_,h5⟩:=bw.aG R;obtain⟨b,off,rfl,A4,hc⟩:=h5 dc;obtain⟨rfl,rfl⟩:A=some ⟨b,off,none⟩/\c=c':=by injection e1 with h1 _ h3;exact⟨h1,h3⟩
 have Z1:=ja (⟨A4,hc,b1⟩:_/\(∀(j:Nat) v,[i6 6,i6 0][j]? =some v->w1.cell? (ae b (off+j))=some v)/\_);clear ho R e1 h5 A4 hc b1;go_wp2_with fail
 obtain⟨q,hq⟩:=ex w1.heap.size;obtain⟨w2,e2,k2,b2,s2⟩:=ax w1 38 AR q hq;rw[e2,hq];rw[A3]at k2;have U:Below w1.heap.size w1 w2:=hq▸b2;have o:=Z1.a.2.2.trans (U.mono Z1.a.2.2.size);have A5:a7 w2:=λk hk=>cl o (by show 1<w.heap.size;exact HW.a) (HW.b k hk);have hp:NdW.t_ w2 w2.heap.size (.slice (some ⟨q,0,none⟩) 15 15) (List.replicate 15 (0,0)):=bw.more (k2.fe 0 15 15 2 dc lh (by rw[aq];decide)) k2.lt;have HN:=ja (NdW.Fk w2 _ w2.heap.size (List.replicate 15 (0,0)) hp lh rfl dc (λp hp=>by rw[List.eq_of_mem_replicate hp];decide) A5);have Z2:=jb o U;clear e2 k2 b2 s2 hq U o A5 hp A9 A3;refine HN.a.mono ?_;rintro e w3 ⟨v,rfl,hv,b3⟩;have A6:=Z2.a.trans (b3.mono Z2.a.size);have Z3:=jc hv A6 b3;obtain⟨Av,cv,rfl,_⟩:=hv.1;clear hv b3 A6;obtain⟨nl,A0⟩:=ex (Nd.NC (List.replicate 15 (0,0)));have AI:=ja A0;rw[A0]at Z3|-;clear A0;go_wp2_with fail
 obtain⟨q3,I⟩:=ex w3.heap.size;obtain⟨w4,e4,k4,b4,s4⟩:=ax w3 3 #[i6 6,i6 0] q3 I;rw[e4,I];have J:Below w3.heap.size w3 w4:=I▸b4;have A1:=(Z2.b.trans (Z3.c.mono Z2.b.size)).trans (J.mono (Nat.le_trans Z2.b.size Z3.c.size));have HS:=ja (CX (w:=w4) b off c q3 0 2 (λj x hx=>cl A1 Z1.a.1 (Z1.a.2.1 j x hx)) (λj x hx=>by rw[Nat.zero_add];exact(k4.cell j).trans hx) (Nat.lt_of_lt_of_le Z1.a.1 A1.size) k4.lt);have Z4:=ja (Z3.b.trans (J.mono Z3.b.size));have Y4:=ja J;clear e4 k4 b4 s4 I J A1;refine HS.a.mono ?_;rintro e w5 ⟨rfl,b5⟩;have A2:=Z4.a.trans (b5.mono Z4.a.size);have A7:a7 w5:=λk hk=>cl A2 (by show 1<w.heap.size;exact HW.a) (HW.b k hk);have A8:Bs w5 w5.heap.size (.slice Av nl.length cv) nl:=((Z3.a.1.ext lh (Y4.a.trans (b5.mono Y4.a.size))).more (Nat.le_trans Y4.a.size b5.size));have hh:=Fv w5 _ w5.heap.size nl A7 A8 lh;rw[show Crc.held nl=true by rw[<-AI.a];exact Crc.wN _ dc]at hh;have HH:=ja hh;have Z5:=ja A2;clear A2 A7 A8 hh b5;go_wp2_with fail
 refine HH.a.mono ?_;rintro e w6 ⟨rfl,b6⟩;have Z6:=ja (Z5.a.trans (b6.mono Z5.a.size));clear b6;go_wp2;go_ret;exact⟨rfl,Z6.a⟩
end
end Co
namespace Co
open Go.RowKit
open Et (E)
open Lk (fH Has N)
section
variable {w0 w w':World} {c c':C} {f fd fl:Fi} {L L':List E} {g t:Nat} {o o':Option (Int×Int)} {l:List N} {D:List UInt8} {n:Int}
structure St (w0 w:World) (c:C) (fd fl:Fi) (L:List E) (g t:Nat) (o:Option (Int×Int)) (l:List N) (D:List UInt8) (n:Int):Prop where
 has:Has L l
 mT:dw w c [fd,fl] L g t o
 fit:Fit c [fd,fl]
 ar:fl.ar=l.length
 d:fl.d=D
 vs:fl.vs.length=Sp.nb D.length
 dl:D.length<=300
 sl:∃m,m.length=40/\c.aF=ImW.ag m/\Im.dY m 2≠0
 b_:c.b_.length<=50
 age:0<=c.age/\c.age<=n
 wZ:Bw w0 w
 own:∀b,b<w0.heap.size->c.own b=0
 new:w0.heap.size<=t
theorem eX (hb:Bw w0 w) (ho:∀b,b<w0.heap.size->c.own b=0) (ht:w0.heap.size<=t) (O:gI t w c w' c'):Bw w0 w'/\∀b,b<w0.heap.size->c'.own b=0:=by
 refine⟨((af.aj (X:=λb=>w0.heap.size<=b) hb).trans O.turn λb e=>?_).bm lh λ_ e=>e,λb hbl=>(O.own b (Nat.lt_of_lt_of_le hbl hb.size)).trans (ho b hbl)⟩;by_cases h:b<w0.heap.size
 ·rcases e with e|e
  ·exact absurd (ho b h) e
  ·omega
 ·exact .inl om
theorem St.calm (h:St w0 w c fd fl L g t o l D n) (hC:qI w c [fd,fl] L g t o' w'):∃c',St w0 w' c' fd fl L g t o' l D n/\gI t w c w' c':=by obtain⟨c',I,F,O⟩:=hC;obtain⟨J,R⟩:=eX h.wZ h.own h.new O;exact⟨c',⟨h.has,F,h.fit.l_ I.l_,h.ar,h.d,h.vs,h.dl,by rw[I.l_.aF];exact h.sl,by rw[I.l_.b_];exact h.b_,by rw[I.age];exact h.age,J,R,h.new⟩,O⟩
theorem St.below (h:St w0 w c fd fl L g t o l D n) (hb:Bw w w'):St w0 w' c fd fl L g t o l D n:=⟨h.has,h.mT.below hb,h.fit,h.ar,h.d,h.vs,h.dl,h.sl,h.b_,h.age,h.wZ.trans (hb.mono h.wZ.size),h.own,h.new⟩
theorem Bc (h:Has L l) (hl:l.length<=11):L.length<=14:=by rw[h.len];omega
theorem Jw (h:St w0 w c fd fl L g t o l D n):fl.vs.length<=3:=by rw[h.vs];exact Fit.nb (oa h.dl)
theorem St.linked (h:St w0 w c fd fl L g t o l D n) {s:N} (hl:l.length<=10) (hn:Tl.dR s=true) (hs:s∉l) (hC:wA w c g t o (NF fl (Et.eQ L (fH s))) w'):∃c' fd' fl',St w0 w' c' fd' fl' (Et.eQ L (fH s)) g t o (l++[s]) D (n+1)/\gI t w c w' c':=by
 obtain⟨c1,c2,A',L2,j,F,O,hF,ha,J,f2,rfl,I,⟨R,U⟩,rfl⟩:=hC;obtain⟨hb,ho⟩:=eX h.wZ h.own h.new O;obtain⟨m,m1,m2,m3⟩:=h.sl;have hg:=hF.b_;have hh:=(h.has.add hn hs om).2;have A0:=h.age;refine⟨c2,J,f2,⟨hh,F,hF,?_,I.d.trans h.d,by rw[I.vs];exact h.vs,h.dl,⟨m,m1,(R.trans j.aF).trans m2,m3⟩,?_,by rw[ha];omega,hb,ho,h.new⟩,O⟩
 ·rw[I.ar,List.length_append];show fl.ar+1=_;rw[h.ar];rfl
 ·rw[U,j.b_];exact h.b_
theorem St.DK {s:N} (h:St w0 w c fd fl L g t none (s::l) D n) (hl:0<l.length) (hC:wA w c g t none (Js fl (Et.cT L s)) w'):∃c' fd' fl',St w0 w' c' fd' fl' (Et.cT L s) g t none l D (n+1)/\gI t w c w' c':=by obtain⟨c1,c2,A',L2,hk,F,O,hF,ha,J,_,rfl⟩:=hC;obtain⟨hb,ho⟩:=eX h.wZ h.own h.new O;obtain⟨m,m1,m2,m3⟩:=h.sl;have R:=h.ar;rw[List.length_cons]at R;obtain⟨U,f2,rfl,I,j,o⟩:=J om;have hh:=h.has.take.2;have A0:=h.age;refine⟨c2,U,f2,⟨hh,F,hF,?_,I.d.trans h.d,by rw[I.vs];exact h.vs,h.dl,⟨m,m1,(j.trans hk.aF).trans m2,m3⟩,by rw[o,hk.b_];exact h.b_,by rw[ha];omega,hb,ho,h.new⟩,O⟩;rw[I.ar];show fl.ar+-1=_;omega
theorem St.last {s:N} (h:St w0 w c fd fl L g t none [s] D n) (hC:wA w c g t none (Js fl (Et.cT L s)) w'):∃c' fd',dw w' c' [fd'] (Et.cT L s) g t none/\gI t w c w' c'/\Bw w0 w'/\∀b,b<w0.heap.size->c'.own b=0:=by obtain⟨c1,c2,R,L2,o,F,O,hF,ha,_,I,rfl⟩:=hC;obtain⟨U,j⟩:=eX h.wZ h.own h.new O;obtain⟨J,rfl⟩:=I (by rw[h.ar];rfl);exact⟨c2,J,F,O,U,j⟩
theorem St.there (h:St w0 w c fd fl L g t o l D n) (hC:My w c [fd,fl] L g t o w'):∃c',St w0 w' c' fd fl L g t o l D (n+2)/\gI t w c w' c':=by obtain⟨c2,I,F,O,ha⟩:=hC;obtain⟨J,R⟩:=eX h.wZ h.own h.new O;have U:=h.age;exact⟨c2,⟨h.has,F,h.fit.l_ I,h.ar,h.d,h.vs,h.dl,by rw[I.aF];exact h.sl,by rw[I.b_];exact h.b_,by rw[ha];omega,J,R,h.new⟩,O⟩
end
end Co
end Go.Proofs.YtdhgejiacehpbaaGreatDoor
