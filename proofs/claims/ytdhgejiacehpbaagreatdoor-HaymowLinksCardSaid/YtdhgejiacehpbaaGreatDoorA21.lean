import Derived.Test.YtdhgejiacehpbaaGreatDoorA20
import Derived.Lib.DecodeN
set_option maxRecDepth 100000
set_option maxHeartbeats 16000000
set_option linter.all false
namespace Go.Proofs.YtdhgejiacehpbaaGreatDoor
open Go.Proofs.Tryz
namespace Co
open Go.RowKit
def m1:List Im.Sl:=Im.zero.set 1 ⟨0,0,1⟩
theorem yd (s:Nat) (hs:s<4294967296):Im.lp m1 1 (2,s)=0/\Im.qx m1 1 (2,s)=m1.set 1 ⟨2,s,(Im.at_ m1 1).v⟩/\Im.aV (m1.set 1 ⟨2,s,(Im.at_ m1 1).v⟩)=true/\Im.Good (m1.set 1 ⟨2,s,(Im.at_ m1 1).v⟩):=by
 have hw:Im.bZ m1 1=0:=by decide
 have hp:=ImW.tX (p:=(2,s)) hw (by show(1:Int)<=2;decide) (ImW.mL dc dc);refine⟨hp.1,hp.2,?_,?_⟩
 ·unfold Im.aV;rw[Bool.and_eq_true];refine⟨List.all_eq_true.2 λy I=>?_,?_⟩
  ·rcases List.mem_or_eq_of_mem_set I with h|rfl
   ·rcases List.mem_or_eq_of_mem_set h with h|rfl
    ·rw[List.eq_of_mem_replicate h];decide
    ·decide
   ·unfold Im.mO;rw[Bool.and_eq_true];exact⟨ImW.mL (a:=2) dc dc,(by decide:decide (0<=(Im.at_ m1 1).v/\(Im.at_ m1 1).v<=2147483647)=true)⟩
  ·rfl
 ·refine⟨by rw[List.length_set];rfl,λy I=>?_⟩;rcases List.mem_or_eq_of_mem_set I with h|rfl
  ·rcases List.mem_or_eq_of_mem_set h with h|rfl
   ·rw[List.eq_of_mem_replicate h];decide
   ·decide
  ·exact hs
theorem Hu:Im.dV Im.zero 1=m1:=by decide
end Co
namespace Co
open Go.RowKit
open Dv (Md D)
open SmW (aK)
attribute [local go_sem] Oper.semAt_some
theorem Lv:∀args x,(callFunc 210 args).run prog x=.ok (.enter 210 args) x:=λargs x=>by have h:=func210;go_simp
section
variable {w w':World} {c:C} {f:Fi} {X:Nat->Prop} {m:Nat}
def N5 (V0:World) (c:C) (b1 b2:Bool) (x:World):Prop:=ak x c.g 110 (C.cells {c with k:={c.k with at_:=cond b1 7 c.k.at_,next:=cond b2 2 c.k.next}})/\af (· =c.g) V0 x
def Of (w:World) (c:C) (X:Nat->Prop) (m:Nat) (x0:Co.X) (e:Ending) (w':World):Prop:=
 ∃c' us ch,∃s:Nat->Nat,∃p:W,∃sm:Nat,∃g l1 l2 l3 l4 l5,∃d':D,e=.returned (i6 0)/\bD w' c' [Fi.of g l1 l2 l3 l4 l5 p (c.age+1)]/\
  c'={c with k:={c.k with maps:=bJ s,aT:=c.k.aT+1,aU:=us,nQ:=dW 5,at_:=7,next:=2,chain:=ch},aF:=ImW.ag (m1.set 1 ⟨2,sm,(Im.at_ m1 1).v⟩),age:=c.age+1,cL:=[],own:=c'.own}/\
  p.x=x0/\p.at_=2/\sm<4294967296/\(∀k,s k<4294967296)/\Md w' (xS d') m d'/\d'.qs=[]/\(∀b,xS d' b->X b\/w.heap.size<=b)/\nC w' c' [Fi.of g l1 l2 l3 l4 l5 p (c.age+1)] (xS d')/\
  (∀b,b<w.heap.size->c'.own b=c.own b)/\af (λb=>X b\/c.own b≠0\/b=c.k.aY) w w'
theorem BJ (h:bD w c [f]) (hwn:f.cU=none) (hvs:f.vs=[]) (hgn:c.b_=[]) (hL:Lays c) (hat:c.k.at_=1) (hnx:c.k.next=1) (hmm:c.k.m=pt m 0) (hcm:0<=c.k.aT/\c.k.aT<=1000) (hage:0<=c.age/\c.age<=1000)
 (hsl:c.aF=ImW.ag m1) (hmp:c.k.maps=dQ) (hb:ay w prog 3 c.k.aY []) (hbo:c.own c.k.aY=0) (hbb:c.k.aY≠c.k.bad) (hbg:2<=c.k.aY) (hus:∀b,c.k.aU.ownBlock=some b->b≠c.k.aY)
 (d:D) (hm:Md w X m d) (hd:d.qs=[]) (o:nC w c [f] X) (hXb:¬X c.k.aY) (ty ar bN:Int) (hx:f.x=⟨ty,ar,bN,0,0⟩) (hmy:Nd.aV ⟨ty,ar,bN,0,0,List.replicate 9 (0,0)⟩=true)
 (B:Nat) (hB:B<=w.heap.size) (hB0:∀b,B<=b->c.own b=0) (hXB:∀b,X b->b<B) (hbB:c.k.aY<B) (hmB:m<B) (hub:∀b,c.k.aU.ownBlock=some b->b<B) (hbd:c.k.bad<B) (hmo:c.own m=0)
 (wv sv ev:Value) (A1 A2 A3:Option Addr) (c1 c2 c3:Nat) (hwv:w.ownsRow B 314 4 wv 1 [i6 1,.slice A1 0 c1,.slice A2 0 c2,.slice A3 0 c3]) (hsv:w.ownsRow B 3 1 sv 4 [i6 0,i6 1,i6 2,i6 3]) (hev:w.ownsRow B 310 4 ev 5 (aK l5)):
 Calls prog 160 #[pt c.g 0,.agg #[wv,sv,ev]] w (Of w c X m ⟨ty,ar,bN,0,0⟩):=by
 have H:=je h hb hm o hL;have HC:=jl hwn hvs hgn hat hnx hmm hsl hmp hbo hbb hbg hus;have HX:=jl hd hXb hx hmy hB hB0 hXB hbB hmB hub hbd hmo;have HR:=jc hwv hsv hev;have KC:∀(fn:Fn) (first cap:Array Value) (w:World),(Instr.makeFunc fn first cap).run prog w=.ok (.func fn first cap) w:=λ_ _ _ _=>rfl;clear h hb hm o hL hwn hvs hgn hat hnx hmm hsl hmp hbo hbb hbg hus hd hXb hx hmy hB hB0 hXB hbB hmB hub hbd hmo;obtain⟨Aw,cw,rfl,_,_,_,Ax⟩:=bw.aG hwv;obtain⟨wb,wo,rfl,Co,F4⟩:=Ax dc;obtain⟨As,B6,rfl⟩:=Dv.aX hsv;obtain⟨Ae,ce,rfl⟩:=Dv.aX hev;have B7:=jc F4 Co ((hwv.lt wb rfl).1);clear Ax F4 Co hwv hsv hev;go_enter func160,ntmps160;go_upto_region 2 with fail
 obtain⟨q,hq⟩:=ex w.heap.size;obtain⟨wa,ea,ka,ba,sa⟩:=ax w 48 #[pt c.g 0] q hq;rw[ea];obtain⟨B8,eb,kb,bb,sb⟩:=ax wa 266 #[.slice (some ⟨wb,wo,none⟩) 1 cw,.slice As 4 B6,.slice Ae 5 ce] (q+1) sa;rw[eb];obtain⟨w2,e2,k2,b2,s2⟩:=ax B8 322 (bV (.slice none 0 0) df dQ).toArray (q+1+1) sb;rw[show(Obj.cells zeroCells322 322)=.cells (bV (.slice none 0 0) df dQ).toArray 322 by kernel_rfl,e2,hq];have B9:Below w.heap.size w wa:=hq▸ba;have hbb:Below wa.heap.size wa B8:=sa▸bb;have BB:Below B8.heap.size B8 w2:=sb▸b2;have A6:=(B9.trans (hbb.mono B9.size)).trans (BB.mono (Nat.le_trans B9.size hbb.size));have F5:ak w2 q 48 [pt c.g 0]:=(ka.ext hbb).ext BB;have F6:ak w2 (q+1) 266 [.slice (some ⟨wb,wo,none⟩) 1 cw,.slice As 4 B6,.slice Ae 5 ce]:=kb.ext BB;obtain⟨ob,BO⟩:=ex (q+1+1);rw[BO]at k2 s2|-;have Q:=jc hq BO s2;have K2:=jf F5 F6 k2 (H.a.below A6) A6 (H.c.below A6);have R2:=jc (aD HR.a A6) (aD HR.b A6) (aD HR.c A6);have hle:q<w2.heap.size/\q+1<w2.heap.size/\ob<w2.heap.size/\B<=q:=by have:=HX.e;omega
 have E8:∀b,q<=b->¬X b:=λb hb e=>by have:=HX.g b e;omega
 have F7:∀b,w2.heap.size<=b->¬X b/\b≠ob:=λb hb=>⟨E8 b om,by omega⟩;have F8:c.g<w.heap.size:=H.a.core.lt;have I:c.g<w2.heap.size:=by omega
 have XN:=je E8 F7 hle F8 I;have Ao:=H.a.below A6;have c0:w2.cell? (ae c.g 0)=some (pt m 0):=(Ao.cell 0).trans (by show some c.k.m=_;rw[HC.f]);have D0:w2.cell? (ae c.g 190)=some (i6 1):=(Ao.cell 190).trans ((get_at Ao.len).trans (by rw[HC.d]));have D3:w2.cell? (ae c.g 191)=some (i6 1):=(Ao.cell 191).trans ((lZ Ao.len).trans (by rw[HC.e]));have E9:=jc c0 D0 D3;have A7:Cy w2 X m ob ⟨ty,ar,bN,0,0⟩ m1 false w2.drew:={pre:=λ_=>(Below.refl _ w2).drew,turn:=af.aj ((Below.refl _ w2).drew),md:=λe=>(by cases e),out:=λe=>(by cases e)};clear ea ka ba sa eb kb bb sb e2 k2 b2 s2 B9 hbb BB A6 F5 F6 hle E8 F7 F8 I Ao BO c0 D0 D3 hq;refine fP 24 [(ey (pt c.g 0)),(ey (pt c.g 0)),(ey (pt c.g 0)),(ey (pt m 0)),(ey (pt c.g 0)),(ey (pt c.g 0)),(ey (pt c.g 190)),(ey (i6 1)),(ey (pt c.g 0)),(ey (pt c.g 0)),(ey (pt c.g 191)),(ey (i6 1)),(ey (pt c.g 0)),(λ_=>λu x_=>x_.ownsRow w2.heap.size 3 1 u 17 (ints Ad.gA)),(ey (pt (q+1) 2)),(ey (.slice Ae 5 ce)),(ey (.func (.func 210) #[] #[pt q 0,pt (q+1) 0,pt ob 0])),(λ_=>λu x_=>∃v,u=.tuple #[v,i6 0]/\Lh w2.heap.size v x_),(λ_=>λu x_=>∃v,u=.tuple #[v,i6 0]/\Lh w2.heap.size v x_),(λ_=>λu x_=>Lh w2.heap.size u x_),(ey (i6 0)),(λf_ u x_=>Mt w2.heap.size (f_ 22) u x_),(ey undef),(ey (i6 0))]
  (λf_ x_=>Cy w2 X m ob ⟨ty,ar,bN,0,0⟩ m1 (f_ 17) x_) (λi_ a_ x_ x'=>qm w2.heap.size X ob i_ a_ x_ x') kj rfl kj ?_ ?_ ?_ ?_
 ·exact A7
 ·intro i_ j_ d_ f_ a_ x_ x' HS hd hv hE;rcases j_ with _|_|_|_|_|_|_|_|_|_|_|_|_|_|_|_|_|_|_|_|_|_|_|_|j_;all_goals first|exact hv|skip
  ·exact hE.row hv XN.b
  ·obtain⟨v,h1,h2⟩:=hv;exact⟨v,h1,h2.row hE XN.b⟩
  ·obtain⟨v,h1,h2⟩:=hv;exact⟨v,h1,h2.row hE XN.b⟩
  ·exact Lh.row hE hv XN.b
  ·obtain rfl:6=d_:=Option.some.inj hd;exact Mt.Ht hE hv XN.b
 ·refine⟨?_,lz [0,9] [],lz [1,10] [],?_,?_,lz [4,13] [],lz [5,14] [],?_,?_,lz [8,17] [],lz [9,18] [],?_,?_,?_,lz [] [3],?_,lz [] [2,3,5],?_,?_,?_,?_,?_,?_,lz [20,28] [],trivial⟩
  ·intro f a x R J I hG hd hs K hK;have n0:f 0=false:=R;have n1:f 1=false:=I.no 1 0 9 n0 kj;have n2:f 2=false:=I.no 2 1 10 n1 kj;have n3:f 3=false:=I.no 3 2 11 n2 kj;have n17:f 17=false:=I.no 17 3 12 n3 kj;have h2:_=_:=hs 2 kj;clear hd hs J I;refine pj ?_;have x0:=((K2.a.ext ((hG.pre n17))).cell 0);go_simp;exact hK _ _ rfl hG (qm.of dc dc bh)
  ·intro f a x R J I hG hd hs K hK;have n3:f 3=false:=R;have n17:f 17=false:=I.no 17 3 12 n3 kj;have KD:_=_:=hd 2 11 kj;clear hd hs J I;refine pj ?_;have x0:=((hG.pre n17).cell (p:=ae c.g 0) XN.e).trans E9.a;go_simp;exact hK _ _ rfl hG (qm.of dc dc bh)
  ·intro f a x R J I hG hd hs K hK;have n4:f 4=false:=R;have n5:f 5=false:=I.no 5 4 13 n4 kj;have n6:f 6=false:=I.no 6 5 14 n5 kj;have n7:f 7=false:=I.no 7 6 15 n6 kj;have n17:f 17=false:=I.no 17 7 16 n7 kj;have h2:_=_:=hs 2 kj;clear hd hs J I;refine pj ?_;have x0:=((K2.a.ext ((hG.pre n17))).cell 0);go_simp;exact hK _ _ rfl hG (qm.of dc dc bh)
  ·intro f a x R J I hG hd hs K hK;have n7:f 7=false:=R;have n17:f 17=false:=I.no 17 7 16 n7 kj;have KE:_=_:=hd 6 15 kj;clear hd hs J I;refine pj ?_;have x0:=((hG.pre n17).cell (p:=ae c.g 190) XN.e).trans E9.b;go_simp;exact hK _ _ rfl hG (qm.of dc dc bh)
  ·intro f a x R J I hG hd hs K hK;have n8:f 8=false:=R;have n9:f 9=false:=I.no 9 8 17 n8 kj;have HT:f 10=false:=I.no 10 9 18 n9 kj;have EC:f 11=false:=I.no 11 10 19 HT kj;have n17:f 17=false:=I.no 17 11 20 EC kj;have h2:_=_:=hs 2 kj;clear hd hs J I;refine pj ?_;have x0:=((K2.a.ext ((hG.pre n17))).cell 0);go_simp;exact hK _ _ rfl hG (qm.of dc dc bh)
  ·intro f a x R J I hG hd hs K hK;have EC:f 11=false:=R;have n17:f 17=false:=I.no 17 11 20 EC kj;have KG:_=_:=hd 10 19 kj;clear hd hs J I;refine pj ?_;have x0:=((hG.pre n17).cell (p:=ae c.g 191) XN.e).trans E9.c;go_simp;exact hK _ _ rfl hG (qm.of dc dc bh)
  ·intro f a x R J I hG hd hs K hK;have HU:f 12=false:=R;have EK:f 13=false:=I.no 13 12 21 HU kj;have n17:f 17=false:=I.no 17 13 22 EK kj;have h2:_=_:=hs 2 kj;clear hd hs J I;refine pj ?_;have x0:=((K2.a.ext ((hG.pre n17))).cell 0);go_simp;exact hK _ _ rfl hG (qm.of dc dc bh)
  ·intro f a x R J I hG hd hs K hK;have EK:f 13=false:=R;have n17:f 17=false:=I.no 17 13 22 EK kj;have KK:_=_:=hd 12 21 kj;clear hd hs J I;refine pj ?_;go_simp;refine(rf (K2.d.below (hG.pre n17)) H.e).mono ?_;rintro e x' ⟨u,rfl,ho,hb⟩;exact hK _ _ (Ad.dn ho (hG.pre n17).size) (hG.below hb) (qm.of dc dc hb)
  ·intro f a x R J I hG hd hs K hK;have n15:f 15=false:=R;have n17:f 17=false:=I.no 17 15 24 n15 kj;have HV:_=_:=hd 14 23 kj;clear hd hs J I;refine pj ?_;have x0:=((K2.b.ext ((hG.pre n17))).cell 2);go_simp;exact hK _ _ rfl hG (qm.of dc dc bh)
  ·intro f a x R J I hG hd hs K hK;have n17:f 17=false:=R;have KM:_=_:=hd 3 12 kj;have KN:_=_:=hd 7 16 kj;have KO:_=_:=hd 11 20 kj;have EX:=hd 13 22 kj;have KQ:_=_:=hd 15 24 kj;have KR:_=_:=hd 16 25 kj;clear hd hs J I;refine pj ?_;obtain⟨uu,HW⟩:=ex (a.tmps.getD 22 undef);rw[HW]at EX;have Ar:=hG.pre n17;have hf:Is .i64 x x.heap.size uu Ad.gA:=bw.aG EX;have he:SmW.bP x x.heap.size (.slice Ae 5 ce) l5:=bw.aG (aD R2.c Ar);have HY:=Ar.size;have KT:=XN.c;have FZ:=CS d (K2.f.below Ar) HX.a (λb e=>by have:=HX.g b e;omega) ob om (XN.a ob (oa Q.b)) (oi HX.i Q.b) (K2.d.below Ar).gl.halves (by have:=(K2.d).gl.lt;have:=H.a.gl.lt;have:=Q.b;have:=Q.a;show ob≠1;omega) uu (.slice Ae 5 ce) hf l5 he rfl 210 #[pt q 0,pt (q+1) 0,pt ob 0] Lv (λN V=>w2.heap.size<=N/\sF ob ⟨ty,ar,bN,0,0⟩ m1 N V)
    (λx' A k HZ Hw=>by have hbb:=Ar.trans (HZ.mono Ar.size);refine(xP q (q+1) ob (K2.d.below hbb) HC.a ty ar bN 0 HX.c HX.d m1 rfl HC.g HC.h yd wb wo cw A1 A2 A3 c1 c2 c3 (λj u hu=>((K2.e.trans (hbb.mono K2.e.size)).cell (p:=ae wb (wo+j)) B7.b).trans (B7.a j u hu)) (oy B7.b hbb.size K2.e.size) (.slice As 4 B6) (.slice Ae 5 ce) (bw.aG (aD R2.b hbb)) A k Hw (K2.a.ext hbb) (K2.b.ext hbb) (K2.c.ext hbb) (dp rfl rfl)).mono ?_;rintro e x2 ⟨v,rfl,A',k',bl,q1,q2,q3,q4,q5,q6,q7,q8⟩;exact⟨v,rfl,A',k',bl,q1,q2,q3,q4,q5,q6,q7,hbb.size,q8⟩)
    (λN y y' hR hN T=>⟨hR.1,hR.2.turn T (by
     rintro(e|⟨e,_⟩)
     ·exact XN.a ob (oa Q.b) e
     ·omega) (by
     rintro b hb (e|⟨_,e⟩)
     ·exact XN.a b om e
     ·omega)⟩)
   have J1:=ja (callsIn_wide.1 FZ);clear FZ hf he EX;go_simp;refine J1.a.mono ?_;rintro e x' ⟨A0,n0,c0,A,cc,rfl,ho,⟨X',d',AR,BQ,Bg,Bt⟩,T,N,hN,hO⟩;have A8:Cy w2 X m ob ⟨ty,ar,bN,0,0⟩ m1 true x':={pre:=λe=>(by cases e),turn:=hG.turn.trans T λ_ e=>.inl e,md:=λ_=>⟨d',Md.least AR,BQ,λb e=>(Bg b (Md.me AR e)).imp id λe=>by omega,λb e=>Bt b (Md.me AR e)⟩,out:=λ_=>⟨N,hN,hO⟩};exact hK _ _ ⟨_,rfl,A0,n0,c0,A,cc,rfl,Ad.dn ho HY⟩ A8 ⟨λe=>absurd rfl e,λ_=>T,λe=>(by cases e)⟩
  ·intro f a x R J I hG hd hs K hK;have J2:=hd 17 26 kj;clear hd hs J I;refine pj ?_;obtain⟨v,hv,hq⟩:=J2;have G1:=aA hv;go_simp;exact hK _ _ ⟨v,rfl,hq⟩ hG (qm.of dc dc bh)
  ·intro f a x R J I hG hd hs K hK;have h8:=hd 18 8 kj;clear hd hs J I;refine pj ?_;obtain⟨v,hv,hq⟩:=h8;have G1:=aA hv;go_simp;exact hK _ _ hq hG (qm.of dc dc bh)
  ·intro f a x R J I hG hd hs K hK;have h8:=hd 18 8 kj;clear hd hs J I;refine pj ?_;obtain⟨v,hv,hq⟩:=h8;have G1:=aA hv;go_simp;exact hK _ _ rfl hG (qm.of dc dc bh)
  ·intro f a x R J I hG hd hs K hK;have n21:f 21=false:=R;have n22:f 22=false:=I.no 22 21 6 n21 kj;clear hd hs J I;refine pj ?_;go_simp;have hb:=(Below.refl x.heap.size x).alloc lh (.cells #[.slice none 0 0,i6 0,i6 0,.slice none 0 0] 325);have hk:=ak.new x 325 #[.slice none 0 0,i6 0,i6 0,.slice none 0 0];refine hK _ _ ?_ (hG.below hb) (qm.of dc dc hb);exact⟨x.heap.size,rfl,hG.turn.size,λ_=>hk,λe=>by replace e: (decide (22=21)||f 22)=true:=e;rw[n22]at e;cases e⟩
  ·intro f a x R J I hG hd hs K hK;have n22:f 22=false:=R;have n17:f 17=true:=J 17 26 kj;have h6:=hd 21 6 kj;have J3:=hd 19 27 kj;clear hd hs J I;refine pj ?_;obtain⟨t,ht,Jx,h0,_⟩:=h6;obtain⟨A0,n0,c0,A,cc,hv,ho⟩:=J3;have k:=h0 n22;rw[n17]at hG;refine wp_store_mid 325 (.tmp 6) (.tmp 27) rfl t 0 #[.slice A0 n0 c0,i6 7,i6 2,.slice A 1 cc] ht hv (k.there 0 4 dc) kj (by simp[Value.oneCell']) ?_;have T:=af.setCells x t 0 [.slice A0 n0 c0,i6 7,i6 2,.slice A 1 cc];have A8:Cy w2 X m ob ⟨ty,ar,bN,0,0⟩ m1 true _:=hG.type k T Jx dc dc dc dc dc dc dc;refine hK _ _ rfl ?_ ⟨λ_ e=>absurd rfl e,λe=>(by cases e),λ_=>⟨t,_,ht,k,T,A0,n0,c0,A,cc,k.setCells [.slice A0 n0 c0,i6 7,i6 2,.slice A 1 cc] 0 (by show 0+4<=4;decide),Dv.aJ ho T λb e=>Dv.aO ho k dc b e⟩⟩;show Cy w2 X m ob ⟨ty,ar,bN,0,0⟩ m1 (decide (17=22)||f 17) _;rw[n17];exact A8
 ·intro x hG;replace hG: (λf_ x_=>Cy w2 X m ob ⟨ty,ar,bN,0,0⟩ m1 (f_ 17) x_) (λj=>decide (j<24)) x:=hG;(try dsimp only at hG);(iterate 13 rintro _ rfl);rintro KW G2 _ rfl _ rfl _ rfl L' G5 L0 G7 L3 G8 _ rfl v21 H0 _ rfl;simp only[Act.put,List.setIfInBounds_toArray,List.set_cons_zero,List.set_cons_succ,gC,List.getD_cons_zero,List.getD_cons_succ];(try simp only[Exit.then]);obtain⟨t,rfl,ht,_,hV⟩:=H0;obtain⟨A0,n0,c0,A,cc,kt,ho⟩:=hV rfl;have A8:Cy w2 X m ob ⟨ty,ar,bN,0,0⟩ m1 true x:=hG;clear hG A7;obtain⟨d',AR,BQ,Bg,Bt⟩:=A8.md rfl;obtain⟨N,hN,bv,s,p,sm,hO⟩:=A8.out rfl;replace hO:Io ob ⟨ty,ar,bN,0,0⟩ m1 N bv s p sm x:=hO;have H2:B<=N:=(by have:=XN.c;omega);have B':∀{P:Program} {K b:Nat} {l:KV},ay x P K b l->N<=b->¬xS d' b:=λ{P K b l} hm hb e=>(Bt b e).elim (λe=>by have:=HX.g b e;omega) λ⟨t,cs,hk⟩=>iP hm hk;have B0:=jd ((Md.type AR hO.2.2.1 dc dc dc dc).1) (B' hO.2.2.2.2.2.1 hO.2.2.2.2.2.2.2.2.1) (B' hO.2.2.2.2.2.2.1 hO.2.2.2.2.2.2.2.2.2.1) H2;clear B' H2 Bt;have T2:=A8.turn;have F':∀b,q<=b->b≠ob->¬(X b\/b=ob):=λb hb F0 e=>e.elim (XN.a b hb) F0;have B1:=T2.blk K2.a (F' q lh (oa Q.b));have H3:=T2.blk K2.b (F' (q+1) om (oa Q.b));have H4:nC w2 c [f] (λb=>X b\/b=ob):=nC.plain HC.a HC.b (λb e hl=>e.elim (λe=>H.d.own b e (oi (HX.g b e) HX.e)) λe=>by rw[e];exact H.a.hi ob (oi Q.a Q.b)) (λb hb e=>e.elim (H.d.gl b hb) λe=>by have:=H.a.gl.lt;have:=Q.a;have:=Q.b;omega) (λe=>e.elim H.d.bad λe=>by have:=HX.k;have:=XN.c;have:=Q.b;omega) (λb hb e=>e.elim (H.d.aU b hb) λe=>by have:=HX.j b hb;have:=XN.c;have:=Q.b;omega);have H5:=K2.d.rD T2 H4;have H6:=T2.map (H.b.ext K2.e) (λe=>e.elim HX.b λe=>by have:=HX.h;have:=XN.c;have:=Q.b;omega);have D5:∀{e sz n:Nat} {v:Value} {xs:List Value},w2.ownsRow B e sz v n xs->e≠322->x.ownsRow B e sz v n xs:=λ{e sz n v xs} h F0=>Dv.aJ h T2 λb hb e2=>e2.elim (λe2=>by have:=HX.g b e2;have:=(h.lt b hb).1;omega) λe2=>Dv.aO h K2.c F0 b hb e2;have H7:=D5 R2.a dc;have KX:=jo AR BQ Bg hN hO B1 H3 H5 H6 T2 kt ht ho H7;clear AR BQ Bg hN hO B1 H3 H4 H5 H6 F' D5 H7 A8 hV kt ht ho T2 G2 G5 G7 G8;generalize x=w3 at*;(go_upto_region 5 with fail);have hlen:∀b1 b2:Bool,C.eI {c with k:={c.k with at_:=cond b1 7 c.k.at_,next:=cond b2 2 c.k.next}}:=λb1 b2=>⟨KX.h.len.aF,KX.h.len.av,KX.h.len.maps,KX.h.len.used,KX.h.len.dH,KX.h.len.dG⟩;have B2:=ja hlen;have A7:N5 w3 c false false w3.drew:=⟨KX.h.core.ext ((Below.refl _ w3).drew),af.aj ((Below.refl _ w3).drew)⟩;have Aa:q≠c.g/\t≠c.g:=(by have:=XN.d;have:=Q.a;have:=KX.l;have:=XN.c;omega);clear hlen;refine cK 12 [(ez (pt c.g 0)),(ez (pt c.g 0)),(ez (pt t 1)),(ez (i6 7)),(ez (pt t 2)),(ez (i6 2)),(ez (pt c.g 0)),(ez (pt c.g 190)),(ez undef),(ez (pt c.g 0)),(ez (pt c.g 191)),(ez undef)]
   (λf_ x_=>N5 w3 c (f_ 8) (f_ 11) x_) (λ_ x_ x'=>af (· =c.g) x_ x') kj rfl kj ?_ ?_ ?_ ?_
  ·exact A7
  ·intro i_ j_ v_ x_ x' HS hv hE;rcases j_ with _|_|_|_|_|_|_|_|_|_|_|_|j_;all_goals exact hv
  ·refine⟨lx [] [2] λf x hG=>(hG.2.blk KX.f Aa.1).cell 0,lx [] [2] λf x hG=>(hG.2.blk KX.f Aa.1).cell 0,lz [] [6],lx [2,34] [] λf x hG=>(hG.2.blk KX.k Aa.2).cell 1,lz [] [6],lx [4,36] [] λf x hG=>(hG.2.blk KX.k Aa.2).cell 2,lz [0,32] [],lz [6,38] [],?_,lz [1,33] [],lz [9,40] [],?_,trivial⟩
   ·intro f a x R J I hG hd hs K hK;have L4:_=_:=hd 7 39 kj;have L5:_=_:=hd 3 35 kj;clear hd hs J I;refine pj ?_;have x0:=(hG.1.cell 190).trans (get_at (B2.a _ _));have f0:=hG.1.frozen 190;have hk:=hG.1.aC 190 (i6 7);rw[LR (B2.a _ _)]at hk;go_simp;exact hK _ _ rfl ⟨hk,hG.2.trans (af.setCell x c.g 190 _) λ_ e=>.inl e⟩ (af.setCell x c.g 190 _)
   ·intro f a x R J I hG hd hs K hK;have LG:_=_:=hd 10 41 kj;have Lb:_=_:=hd 5 37 kj;clear hd hs J I;refine pj ?_;have x0:=(hG.1.cell 191).trans (lZ (B2.a _ _));have f0:=hG.1.frozen 191;have hk:=hG.1.aC 191 (i6 2);rw[uB (B2.a _ _)]at hk;go_simp;exact hK _ _ rfl ⟨hk,hG.2.trans (af.setCell x c.g 191 _) λ_ e=>.inl e⟩ (af.setCell x c.g 191 _)
  ·intro x hG;replace hG: (λf_ x_=>N5 w3 c (f_ 8) (f_ 11) x_) (λj=>decide (j<12)) x:=hG;(try dsimp only at hG);(iterate 10 rintro _ rfl);simp only[Act.put,List.setIfInBounds_toArray,List.set_cons_zero,List.set_cons_succ,gC,List.getD_cons_zero,List.getD_cons_succ];(try simp only[Exit.then]);have H9:bD x {c with k:={c.k with at_:=7,next:=2}} [f]:=KX.h.pI hG.2 hG.1 (B2.a true true) rfl rfl rfl rfl rfl rfl rfl rfl rfl rfl;have Bu:=hG.2;have B1:=Bu.blk KX.f Aa.1;have kt:=Bu.blk KX.k Aa.2;have KY:=jd H9 Bu B1 kt;clear hG A7 H9 Bu B1 kt;generalize x=w4 at*;(go_upto_region 6 with fail);have HA:c.g<w4.heap.size:=KY.a.core.lt;have E1:w4.cell? (ae c.g 192)=some (.slice none 0 0):=(KY.a.cell 192).trans ((jV KY.a.len).trans (by show some c.k.chain=_;rw[H.e.chain]));have E4:w4.ownsRow w2.heap.size 3 1 (.slice A 1 cc) 1 [i6 0]:=Dv.aJ KX.m KY.b λb e e2=>(by have:=(KX.m.lt b e).1;have:=XN.e;have e2:b=c.g:=e2;omega);have HB:=ja E4;have A7:Below w4.heap.size w4 w4.drew:=(Below.refl _ w4).drew;clear E4;refine aQ 12 9 [(ez (pt c.g 0)),(ez (pt c.g 0)),(ez (pt c.g 0)),(ez (pt c.g 192)),(ez (.slice none 0 0)),(ez (.slice none 0 0)),(ez (pt t 3)),(ez (.slice A 1 cc)),(λu V=>∃A9 k9,u=.slice A9 1 k9/\V.ownsRow w4.heap.size 3 1 (.slice A9 1 k9) 1 [i6 0])]
    (λq_=>Below w4.heap.size w4 q_) kj rfl dc kj kj ?_ ?_ ?_ ?_
   ·exact A7
   ·exact⟨ah _,ah _,ah _,ah _,ah _,ah _,ah _,ah _,λ_ _ _ ⟨A9,k9,h1,h2⟩ hb=>⟨A9,k9,h1,aD h2 hb⟩,trivial⟩
   ·refine⟨rx [] [2] λx hG=>(KY.c.ext hG).cell 0,rx [] [2] λx hG=>(KY.c.ext hG).cell 0,rz [1,43] [],rz [2,44] [],rx [3,45] [] λx hG=>cl hG HA E1,?_,rz [] [6],rx [6,48] [] λx hG=>(KY.d.ext hG).cell 3,?_,trivial⟩
    ·intro a x hG hd hs K hK;have Ld:_=_:=hd 4 46 kj;clear hd hs;refine pj ?_;go_simp;refine(Tryz.slices_Clone_int_nil 0 0 x).mono ?_;rintro e w' ⟨rfl,hw⟩;rw[hw];exact hK _ _ rfl hG bh
    ·intro a x hG hd hs K hK;have K0:_=_:=hd 5 47 kj;have K1:_=_:=hd 7 49 kj;clear hd hs;refine pj ?_;obtain⟨v',w',HD,Ah,K3,BO⟩:=aE (P:=prog) (ty:=50) underlying50 uD rfl dc (World.ownsRow_nil x w4.heap.size 3 1) (bw.aG (aD HB.a hG)) (by intro u hu;rw[List.mem_singleton.1 hu];rfl) (by rw[aq];decide) dc hG.size;obtain⟨A9,k9,rfl⟩:=Dv.aX Ah;refine c_ 47 49 50 rfl K0 K1 HD ?_;have hb:Below x.heap.size x w':=(Below.refl _ x).grown K3 lh (λj e=>by cases e);exact hK _ _ ⟨A9,k9,rfl,Ah⟩ (hG.trans (hb.mono hG.size)) hb
   ·intro x hG;(iterate 8 rintro _ rfl);rintro v8 K4;simp only[Act.put,List.setIfInBounds_toArray,List.set_cons_zero,List.set_cons_succ,List.take_zero,gC];rw[show List.range' 9 (12-9)=[9,10,11]from rfl,wpOps_cons];obtain⟨A9,k9,rfl,Ah⟩:=K4;have A5:=KY.a.below hG;have E1:x.cell? (ae c.g 192)=some (.slice none 0 0):=(A5.cell 192).trans ((jV A5.len).trans (by show some c.k.chain=_;rw[H.e.chain]));have f192:x.frozen? (ae c.g 192)=false:=A5.core.frozen 192;have HE:=A5.set (c':={c with k:={c.k with at_:=7,next:=2,chain:=.slice A9 1 k9}}) (qK A5.len (.slice A9 1 k9)) ⟨A5.len.aF,A5.len.av,A5.len.maps,A5.len.used,A5.len.dH,A5.len.dG⟩ rfl rfl rfl rfl rfl rfl rfl rfl rfl rfl;have HF:af (· =c.g) w3 (x.setCell (ae c.g 192) (.slice A9 1 k9)):=(KY.b.trans (af.aj (X:=(· =c.g)) hG) λ_ e=>.inl e).trans (af.setCell x c.g 192 _) λ_ e=>.inl e;have KZ:=Lib.hid (⟨HE,HF⟩:bD (x.setCell (ae c.g 192) (.slice A9 1 k9)) {c with k:={c.k with at_:=7,next:=2,chain:=.slice A9 1 k9}} [f]/\_);clear A5 HE HF Ah hG A7 HB;refine pj ?_;go_simp;rw[wpOps_cons];refine pj ?_;go_simp;rw[wpOps_cons];refine pj ?_;go_simp;unfold wpOps;(try simp only[Exit.then]);obtain⟨w6,K5⟩:=ex (x.setCell (ae c.g 192) (.slice A9 1 k9));rw[K5]at KZ|-;have HG:∀b,N<=b->¬b=c.g:=λb hb e=>(by have:=B0.d;have:=HX.f b om;rw[e,H.a.o1]at this;cases this);have A4:=KZ.out.2;have U:=KX.e.turn A4 (λe=>by have:=H.a.hi ob (oi Q.a Q.b);rw[e,H.a.o1]at this;cases this) HG;obtain⟨Ab,oc,rfl,_,_,_,hbo⟩:=bw.aG U.2.1;obtain⟨Au,oo,rfl,HH,E5⟩:=hbo dc;have E6:=(U.2.1.lt Au rfl).1;have B3: (bV (.slice (some ⟨Au,oo,none⟩) 1 oc) (ImW.ag (m1.set 1 ⟨2,sm,(Im.at_ m1 1).v⟩)) (bJ s)).length=129:=dp (by rw[ImW.au,List.length_set];rfl) rfl;have K6:=nH B3;have K7:=U.1.range;have HI:=A4.blk KX.f Aa.1;have By:=A4.blk KX.g (λe=>by have:=H.a.hi (q+1) (oa Q.a);rw[e,H.a.o1]at this;cases this);have y0:=HI.cell 0;have z0:=By.cell 0;have z1:=By.cell 1;have z2:=By.cell 2;have HK:=A4.map KX.i (λe=>by have h:=HC.i;rw[e,H.a.o1]at h;cases h);have B4:=Dv.aJ KX.n A4 λb e e2=>(by have h0:=HX.f b (KX.n.lt b e).1;rw[show b=c.g from e2,H.a.o1]at h0;cases h0);obtain⟨Aq,K8,HL,_,_,_,Ax⟩:=bw.aG B4;obtain⟨b',o',E7,_,HM⟩:=Ax dc;obtain⟨rfl,rfl⟩:some ⟨wb,wo,none⟩=Aq/\cw=K8:=(by injection HL with h1 _ h3;exact⟨h1,h3⟩);clear HL;obtain⟨rfl,rfl⟩:wb=b'/\wo=o':=(by injection E7 with h;injection h with h1 h2;exact⟨h1,h2⟩);have F1:∀b,B<=b->c.own b=0/\b≠c.k.aY:=λb hb=>⟨HX.f b hb,by have:=HX.h;omega⟩;have AI:∀b,N<=b->c.own b=0/\b≠c.k.aY:=λb hb=>F1 b (Nat.le_trans B0.d hb);have HN:=zp (c:={c with k:={c.k with at_:=7,next:=2,chain:=.slice A9 1 k9}}) KZ.out.1 HC.a HC.b HC.c ⟨H.e.g1,H.e.g2,H.e.g3,H.e.g4⟩ HK HC.i HC.j HC.k HC.l hcm hage wb wo cw A1 A2 A3 c1 c2 c3 HM ⟨(B4.lt wb rfl).2,F1 wb B7.c⟩ (.slice As 4 B6) (.slice Ae 5 ce)
     Au oo oc p (E5 0 _ rfl) ⟨(U.2.1.lt Au rfl).2,AI Au E6⟩ ⟨U.2.2.1,U.2.2.2.2.2.1,U.2.2.2.2.2.2.1,(AI _ U.2.2.2.2.2.2.2.1).1,(AI _ U.2.2.2.2.2.2.2.2.1).1,(AI _ U.2.2.2.2.2.2.2.2.2.1).1⟩ ⟨(AI _ U.2.2.2.2.2.2.2.1).2,(AI _ U.2.2.2.2.2.2.2.2.1).2,(AI _ U.2.2.2.2.2.2.2.2.2.1).2⟩ ty ar bN U.2.2.2.2.1 U.2.2.2.1 (ImW.ag (m1.set 1 ⟨2,sm,(Im.at_ m1 1).v⟩)) (by rw[ImW.au,List.length_set];rfl) (λv hv=>(eH _ v hv).2) s
    have F2:=jc HN A4 U;clear HN A4 U hbo HH E5 E6 B3 HI By HK B4 Ax HM E7 F1 AI HG;(go_wp2_with(refine aw 322 (.tmp 5) rfl rfl ob 0 rfl (bV (.slice (some ⟨Au,oo,none⟩) 1 oc) (ImW.ag (m1.set 1 ⟨2,sm,(Im.at_ m1 1).v⟩)) (bJ s)) _ K7 underlying322 rfl K6 ?_));refine F2.a.mono ?_;rintro e w7 ⟨c',us,g,l1,l2,l3,l4,l5,rfl,C4,Av,B5,CC,Cd⟩;have Z7:=Lib.hid (⟨C4,Av,B5,CC,Cd⟩:_/\_/\_/\_/\_);clear C4 Av B5 CC Cd y0 z0 z1 z2;go_wp2;go_ret;obtain⟨C4,Av,B5,CC,Cd⟩:=Z7.out;have A4:=F2.b;have U:=F2.c;have A6:=K2.e.size;have HV:=KX.j.size;have Lk:=A4.size;have HO:af (λb=>c.own b≠0\/b=c.k.aY) w3 w7:=(A4.mono λb e=>.inl (by rw[e,H.a.o1];decide)).trans CC λ_ e=>.inl e;have HP:=KX.a;have F3:∀b,xS d' b->c.own b=0/\b≠c.k.aY:=λb hb=>by
     rcases KX.c b hb with e|e
     ·exact⟨H.d.own b e (oi (HX.g b e) HX.e),λe2=>HX.b (e2▸e)⟩
     ·exact⟨H.a.hi b om,by have:=HX.h;have:=XN.c;omega⟩
    have HQ:∀b,xS d' b->b<w3.heap.size:=λb hb=>Md.pF HP hb;have K9:m≠c.k.aY:=(by obtain⟨vs,hk,_⟩:=H.c.blk;exact(aP H.b hk).symm);refine⟨c',us,.slice A9 1 k9,s,p,sm,g,l1,l2,l3,l4,l5,d',rfl,C4,Av,U.2.2.2.2.1,U.2.2.2.1,U.2.2.2.2.2.2.2.2.2.2.2.1,U.2.2.2.2.2.2.2.2.2.2.2.2,HP.bU HO (λb hb hl e=>?_),KX.b,λb hb=>(KX.c b hb).imp id λe=>by omega,?_,λb hb=>B5 b om,?_⟩
    ·rcases hb with hb|hb
     ·exact e.elim (λe=>e (F3 b hb).1) (F3 b hb).2
     ·subst hb;exact e.elim (λe=>e HX.l) K9
    ·exact{
      own:=λb hb hl=>(B5 b (oa (HQ b hb))).trans (F3 b hb).1
      gl:=λb hb e=>(KX.c b e).elim (H.d.gl b hb) λe=>by have:=H.a.gl.lt;omega
      bad:=λe=>by rw[show c'.k.bad=c.k.bad by rw[Av]]at e;exact(KX.c _ e).elim H.d.bad λe=>by have:=HX.k;have:=XN.c;omega
      aU:=λb hb e=>by rw[show c'.k.aU=us by rw[Av]]at hb;have:=Cd b hb;have:=HQ b e;omega
      cU:=λi f' p' hf hp=>by
       cases i with
       |succ i=>simp at hf
       |zero=>obtain rfl:Fi.of g l1 l2 l3 l4 l5 p (c.age+1)=f':=Option.some.inj hf;obtain rfl:p=p':=Option.some.inj hp;exact⟨B0.a,B0.b,B0.c⟩
      jW:=λi f' n v b hf hx=>by
       cases i with
       |succ i=>simp at hf
       |zero=>obtain rfl:Fi.of g l1 l2 l3 l4 l5 p (c.age+1)=f':=Option.some.inj hf;simp[Fi.of]at hx}
    ·have KA:af (λb=>X b\/c.own b≠0\/b=c.k.aY) w w3:=(af.aj (X:=λb=>X b\/c.own b≠0\/b=c.k.aY) K2.e).trans KX.j λb e=>e.elim (λe=>.inl (.inl e)) λe=>.inr (oi Q.a Q.b);exact KA.trans HO λb e=>.inl (.inr e)
end
end Co
namespace Co
open Go.RowKit
open Dv (Md D)
section
variable {w w':World} {c:C} {f:Fi} {X:Nat->Prop} {m:Nat}
def NT (w:World) (c:C) (X:Nat->Prop) (e:Ending) (w':World) (x0:Co.X):Prop:=
 ∃c' us,∃s:Nat->Nat,∃p:W,∃sm:Nat,∃g l1 l2 l3 l4 l5,e=.returned (i6 0)/\bD w' c' [Fi.of g l1 l2 l3 l4 l5 p (c.age+1)]/\
  c'={c with k:={c.k with maps:=bJ s,aT:=c.k.aT+1,aU:=us,nQ:=dW 5,at_:=7,next:=2,seq:=2,chain:=.slice none 0 0},aF:=ImW.ag (m1.set 1 ⟨2,sm,(Im.at_ m1 1).v⟩),age:=c.age+1,cL:=[],own:=c'.own}/\p.x=x0/\sm<4294967296/\(∀b,b<w.heap.size->c'.own b=c.own b)/\af (λb=>X b\/c.own b≠0\/b=c.k.aY) w w'
theorem zy (h:bD w c [f]) (hwn:f.cU=none) (hvs:f.vs=[]) (hgn:c.b_=[]) (hL:Lays c) (hat:c.k.at_=1) (hnx:c.k.next=1) (hsq:c.k.seq=1) (hu:c.k.used=List.replicate 8 zi) (hmm:c.k.m=pt m 0) (hcm:0<=c.k.aT/\c.k.aT<=1000) (hage:0<=c.age/\c.age<=1000)
 (hst:keys c.cL=[0,1,2,3]) (hsr:bY c.cL) (hsl:c.aF=ImW.ag m1) (hmp:c.k.maps=dQ) (hb:ay w prog 3 c.k.aY []) (hbo:c.own c.k.aY=0) (hbb:c.k.aY≠c.k.bad) (hbg:2<=c.k.aY) (hus:∀b,c.k.aU.ownBlock=some b->b≠c.k.aY)
 (d:D) (hm:Md w X m d) (hd:d.qs=[]) (o:nC w c [f] X) (hXl:∀b,X b->b<w.heap.size) (hXb:¬X c.k.aY) (hmo:c.own m=0) (ty ar bN:Int) (hx:f.x=⟨ty,ar,bN,0,0⟩) (hmy:Nd.aV ⟨ty,ar,bN,0,0,List.replicate 9 (0,0)⟩=true):
 Calls prog 113 #[pt c.g 0,.bool true] w λe w'=>NT w c X e w' ⟨ty,ar,bN,0,0⟩:=by
 have HP:=ja (Dx h hwn hvs hst hsr (by rw[hgn];intro y hy;cases hy) (by rw[hgn];decide));have H:=je h hb hm o hL;have R:=jl hwn hvs hgn hat hnx hmm hsl hmp hbo hbb hbg hus;have HX:=jh hd hXb hx hmy hXl hmo hsq hu;have AR:w.cell? (ae c.g 178)=some (.map (some c.k.bad)):=(h.cell _).trans (nR h.len);have B5:=h.bad.len underlying101;clear h hb hm o hL hwn hvs hgn hat hnx hmm hsl hmp hbo hbb hbg hus hd hXb hx hmy hXl hmo hsq hu hst hsr;go_enter func113,ntmps113;go_wp2_with fail
 refine HP.a.mono ?_;rintro e w1 ⟨wv,sv,ev,A1,A2,c1,c2,rfl,A4,A5,A6,b1⟩;obtain⟨Aw,cw,rfl⟩:=Dv.aX A4;obtain⟨As,Aa,rfl⟩:=Dv.aX A5;obtain⟨Ae,ce,rfl⟩:=Dv.aX A6;have R1:=jd A4 A5 A6 b1;clear A4 A5 A6 b1 AR B5;go_upto_region 4 with fail
 obtain⟨w2,e2,k2,b2,s2⟩:=ax w1 266 #[.slice Aw 1 cw,.slice As 4 Aa,.slice Ae 5 ce] _ rfl;rw[e2];obtain⟨q,hq⟩:=ex w1.heap.size;rw[hq]at k2 s2|-;have A7:=R1.d.trans (b2.mono R1.d.size);have z0:=k2.cell 0;have z1:=k2.cell 1;have z2:=k2.cell 2;have Ab:Calls prog 122 #[pt c.g 0,i6 5,i6 0] w2 λe w'=>e=.returned (.bool true)/\Bw w2 w':=rQ (H.a.below A7) H.e 5 dc 0 dc;have R2:=jf (aD R1.a b2) (aD R1.b b2) (aD R1.c b2) A7 k2 Ab;clear e2 k2 b2 s2 A7 Ab hq;go_wp2_with fail
 refine R2.f.mono ?_;rintro e w3 ⟨rfl,b3⟩;have J:=R2.d.trans (b3.mono R2.d.size);have A':=H.a.below J;have Ad:w3.cell? (ae c.g 193)=some (.bool false):=(A'.cell _).trans (Gg A'.len);have k3:=R2.e.ext b3;have y0:=k3.cell 0;have y1:=k3.cell 1;have y2:=k3.cell 2;have Ah:=BJ (w:=w3) (X:=X) (m:=m) A' R.a R.b R.c H.e R.d R.e R.f hcm hage R.g R.h (H.b.ext J) R.i R.j R.k R.l
  d (H.c.below J) HX.a (nC.below H.a H.d) HX.b ty ar bN HX.c HX.d w.heap.size J.size H.a.hi HX.e H.b.lt H.c.lt (λb hb=>(H.a.aU.2 b hb).2) H.a.bad.lt HX.f
  (.slice Aw 1 cw) (.slice As 4 Aa) (.slice Ae 5 ce) A1 A2 none c1 c2 0 (aD R2.a b3) (aD R2.b b3) (aD R2.c b3)
 have B6:=ja Ah;clear Ah A' k3 z0 z1 z2;go_wp2_with fail
 refine B6.a.mono ?_;rintro e w4 ⟨c',us,ch,s,p,sm,g,l1,l2,l3,l4,l5,d',rfl,A0,I,Ao,B7,Aq,hs,A8,Ar,Au,Av,Ax,B'⟩;have A9:c'.g=c.g:=by rw[I]
 have B0:w4.cell? (ae c.g 191)=some (i6 2):=by have h:=(A0.cell 191).trans (lZ A0.len);rw[A9,show c'.k.next=2 by rw[I]]at h;exact h
 have AI:=gW (c:=c') (m:=m) A0 (by rw[I];exact R.f) (by rw[I];exact HX.h) s (by rw[I]) hs (by rw[I];exact HX.g) (by rw[I]) d' A8 Ar Av (λb hb=>Md.pF A8 hb);rw[A9]at AI;have B8:=ja AI;have A3:∀b,xS d' b->X b\/w.heap.size<=b:=λb hb=>(Au b hb).imp id λe=>Nat.le_trans J.size e;have B1:af (λb=>X b\/c.own b≠0\/b=c.k.aY) w w4:=(af.aj (X:=λb=>X b\/c.own b≠0\/b=c.k.aY) J).trans B' λb e=>.inl e;have U:=jf I Ao Aq A3 B1 (λb hb=>Ax b (Nat.lt_of_lt_of_le hb J.size):∀b,b<w.heap.size->c'.own b=c.own b);clear AI A3 B1 A0 I Ao B7 Aq hs A8 Ar Au Av Ax B' A9 Ad y0 y1 y2;go_wp2_with fail
 refine B8.a.mono ?_;rintro e w5 ⟨rfl,B2,_,B3⟩;have B4:=jb B2 B3;clear B2 B3 B0;go_wp2;go_ret;refine⟨_,us,s,p,sm,g,l1,l2,l3,l4,l5,rfl,B4.a,?_,U.b,U.c,U.f,U.e.trans B4.b λb e=>e.elim (λe=>(U.d b e).imp .inl id) λe=>.inl (.inr (.inl (by rw[e,H.a.o1];decide)))⟩;rw[U.a]
end
end Co
namespace Co
open Go.RowKit
section
variable {w:World} {c:C} {fs:List Fi}
theorem iD (h:bD w c fs) (i:Nat) (f:Fi) (hf:fs[i]? =some f) (hi:i<39) (ino:Int) (hino:ino=i+1) (hv:f.vs.length=Sp.nb f.d.length) (hd:f.d.length<=80000) (N:Nat) (hN:N<=80000):
 Calls prog 142 #[pt c.g 0,i6 ino,i6 (N:Int)] w (JA w c fs i f ((Sp.F.mk f.d f.vs.length).cut N)):=by
 have I:f.vs.length<=1000:=by rw[hv];unfold Sp.nb;omega
 by_cases J:N<f.d.length
 ·by_cases hm:N%128=0
  ·exact Bh h i f hf hi ino hino om I N om J hm
  ·exact Hi h i f hf hi ino hino om I N om J hm (by rw[hv];unfold Sp.nb;omega)
 ·exact LQ h i f hf hi ino hino om I N om J
theorem fV (h:bD w c fs) (i:Nat) (f:Fi) (hf:fs[i]? =some f) (hi:i<39) (ino:Int) (hino:ino=i+1) (hvl:f.vs.length<=700) (vb:Value) (b:List UInt8) (hb:Bs w w.heap.size vb b) (hb1:b.length<=80000) (hd:f.d.length<=b.length):
 Calls prog 29 #[pt c.g 0,i6 ino,i6 0,vb] w (JA w c fs i f ((Sp.F.mk f.d f.vs.length).write b)):=by
 by_cases I:b=[]
 ·subst I;exact Ch h i f hf hi ino hino hvl (Nat.le_trans hd (Nat.zero_le _)) vb hb
 ·exact xa h i f hf hi ino hino hvl vb b hb ((List.length_pos_iff.2 I)) hb1 hd
theorem uR (h:bD w c fs) (i:Nat) (f:Fi) (hf:fs[i]? =some f) (hi:i<39) (ino:Int) (hino:ino=i+1) (hv:f.vs.length=Sp.nb f.d.length) (hd:f.d.length<=80000) (n:Nat) (hn:f.d.length<=n) (hn2:n<=1000000):
 Calls prog 40 #[pt c.g 0,i6 ino,i6 0,i6 (n:Int)] w (pZ w c fs i f.d):=by
 by_cases I:f.d=[]
 ·by_cases J:n=0
  ·subst J;exact qh h i f hf hi ino hino hv I
  ·exact ti h i f hf hi ino hino hv I n om hn2
 ·exact Ca h i f hf hi ino hino hv om ((List.length_pos_iff.2 I)) n hn hn2
end
end Co
namespace Tl
open Go
structure It where
 v:Int
 s:List UInt8
 iI:Bool
deriving DecidableEq
def rn (l:List UInt8):Nat×Nat:=Lib.decodeN l.length (l.getD 0 0).toNat (l.getD 1 0).toNat (l.getD 2 0).toNat (l.getD 3 0).toNat
def iI (l:List UInt8):Bool:=(rn l).1==65533&&(rn l).2==1
def it (l:List UInt8):It:=if iI l then⟨-1,l.take 1,true⟩else⟨(rn l).1,l.take (rn l).2,false⟩
def iV:Nat->List UInt8->List It
 |0,_=>[]
 |f+1,l=>if l=[]then []else it l::iV f (l.drop (it l).s.length)
def bI (l:List UInt8):List It:=iV l.length l
def runeLen (r:Nat):Nat:=if r<=127 then 1 else if r<=2047 then 2 else if r<=65535 then 3 else 4
theorem jS (l:List UInt8) (h:l≠[]):1<=(rn l).2/\(rn l).2<=4/\(rn l).2<=l.length/\(rn l).1<=1114111/\((rn l).1<55296\/57343<(rn l).1)/\(iI l=false->runeLen (rn l).1=(rn l).2):=by
 have I:1<=l.length:=by cases l with|nil=>exact absurd rfl h|cons a t=>simp
 have J:=(l.getD 0 0).toNat_lt;have R:=(l.getD 1 0).toNat_lt;have U:=(l.getD 2 0).toNat_lt;have j:=(l.getD 3 0).toNat_lt;unfold iI rn;generalize(l.getD 0 0).toNat=b0 at*;generalize(l.getD 1 0).toNat=b1 at*;generalize(l.getD 2 0).toNat=b2 at*;generalize(l.getD 3 0).toNat=b3 at*;generalize l.length=n at*;clear h;unfold Lib.decodeN runeLen;refine⟨?_,?_,?_,?_,?_,?_⟩;all_goals (repeat' split)
 all_goals try (simp;done)
 all_goals try (simp only;omega)
 all_goals (simp only[Bool.and_eq_false_iff,beq_eq_false_iff_ne];omega)
theorem iO (l:List UInt8) (h:l≠[]):1<=(it l).s.length/\(it l).s.length<=l.length/\(it l).s.length<=4/\(it l).s=l.take (it l).s.length:=by
 obtain⟨J,R,I,-⟩:=jS l h;have U:1<=l.length:=by omega
 unfold it;split
 ·simp;omega
 ·simp only[List.length_take];refine⟨by omega,by omega,by omega,?_⟩;rw[Nat.min_eq_left I]
theorem vj (f:Nat):∀(l:List UInt8),l.length<=f->iV f l=bI l:=by
 have key:∀(g f:Nat) (l:List UInt8),l.length<=f->l.length<=g->iV f l=iV g l:=by
  intro g;induction g with
  |zero=>intro f l _ h;have:l=[]:=List.eq_nil_of_length_eq_zero om;subst this;cases f<;>simp[iV]
  |succ g ih=>
   intro f l I J;cases f with
   |zero=>have:l=[]:=List.eq_nil_of_length_eq_zero om;subst this;simp[iV]
   |succ f=>
    unfold iV;by_cases h:l=[]
    ·simp[h]
    ·have:=iO l h;rw[if_neg h,if_neg h,ih f _ (by rw[List.length_drop];omega) (by rw[List.length_drop];omega)]
 intro l h;exact key _ _ _ h lh
theorem fU:bI []=[]:=rfl
theorem eT (l:List UInt8) (h:l≠[]):bI l=it l::bI (l.drop (it l).s.length):=by have J:=iO l h;have:∃n,l.length=n+1:=⟨l.length-1,by omega⟩;obtain⟨n,I⟩:=this;rw[bI,I,iV,if_neg h,vj];rw[List.length_drop];omega
theorem qN (l:List UInt8): (bI l).length<=l.length:=by
 have key:∀(n:Nat) (l:List UInt8),l.length<=n->(bI l).length<=l.length:=by
  intro n;induction n with
  |zero=>intro l h;have:l=[]:=List.eq_nil_of_length_eq_zero om;subst this;simp[fU]
  |succ n ih=>
   intro l h;by_cases I:l=[]
   ·subst I;simp[fU]
   ·have:=iO l I;have J:=ih (l.drop (it l).s.length) (by rw[List.length_drop];omega);rw[eT l I,List.length_cons];rw[List.length_drop]at J;omega
 exact key _ l lh
def run {σ:Type} (step:σ->It->σ) (go:σ->It->Bool):σ->List It->σ
 |st,[]=>st
 |st,x::xs=>if go st x then run step go (step st x) xs else step st x
theorem Mz (l:List UInt8):l.take 3=[239,191,189]↔2<l.length/\(l.getD 0 0).toNat=239/\(l.getD 1 0).toNat=191/\(l.getD 2 0).toNat=189:=by
 have key:∀(x y:UInt8),x=y↔x.toNat=y.toNat:=λx y=>⟨λh=>by rw[h],λh=>UInt8.toNat_inj.1 h⟩
 match l with
 |[]=>simp
 |[a]=>simp
 |[a,b]=>simp
 |a::b::c::t=>simp[key]
theorem G_ (l:List UInt8) (hr: (rn l).1=65533):iI l= !decide (l.take 3=[239,191,189]):=by
 rw[Bool.eq_iff_iff];simp only[Bool.not_eq_true',decide_eq_false_iff_not,Mz];have J:=(l.getD 0 0).toNat_lt;have R:=(l.getD 1 0).toNat_lt;have U:=(l.getD 2 0).toNat_lt;have j:=(l.getD 3 0).toNat_lt;unfold iI;simp only[Bool.and_eq_true,beq_iff_eq];unfold rn at*;generalize(l.getD 0 0).toNat=b0 at*;generalize(l.getD 1 0).toNat=b1 at*;generalize(l.getD 2 0).toNat=b2 at*;generalize(l.getD 3 0).toNat=b3 at*;generalize l.length=n at*;unfold Lib.decodeN at*;revert hr
 repeat' split
 all_goals (intro hr;refine⟨λI=>?_,λI=>?_⟩)
 all_goals first|(intro o;simp only at hr I;omega)|(refine⟨by simp only at hr|-;try omega,?_⟩;simp only at hr|-;try omega)
theorem Lz (l:List UInt8) (h: (rn l).1≠65533):iI l=false:=by unfold iI;simp[h]
theorem wy (s:ByteArray) (pos:Nat):Utf8.decode s pos=rn (s.data.toList.drop pos):=by
 have I:∀k,s.get! (pos+k)=(s.data.toList.drop pos).getD k 0:=by intro k;rcases s with⟨a⟩;show a.get!Internal (pos+k)=_;rw[Array.get!Internal_eq_getElem!];simp only[List.getD_eq_getElem?_getD,List.getElem?_drop,Array.getElem?_toList];rw[getElem!_def];cases a[pos+k]? <;>rfl
 rw[Lib.decode_at,rn];have J: (s.data.toList.drop pos).length=s.size-pos:=by rw[List.length_drop];rfl
 rw[J,<-I 0,<-I 1,<-I 2,<-I 3];rfl
def kE (x:It):Bool:= !x.iI&&decide (32<=x.v)&&x.v != 127&&x.v != 47
def dR (l:List UInt8):Bool:=(bI l).all kE&&decide (1<=l.length)&&decide (l.length<=24)&&decide ((bI l).length<=16)&&l != [46]&&l != [46,46]
def qd:List It->List UInt8->Nat->List UInt8
 |[],out,_=>out
 |x::xs,out,n=>if kE x then(if n=16\/24<out.length+x.s.length then out else qd xs (out++x.s) (n+1))else qd xs out n
def cut (l:List UInt8):List UInt8:=qd (bI l) [] 0
def fit (l:List UInt8):List UInt8:=if dR (cut l)then cut l else cut (120::cut l)
def fC:List Int->List Int->Int
 |[],[]=>0
 |[],_::_=>-1
 |_::_,[]=>1
 |x::xs,y::ys=>if x<y then-1 else if y<x then 1 else fC xs ys
def dJ (l:List UInt8):List Int:=l.map λc=>(c.toNat:Int)
def ord (a b:List UInt8):Int:=fC (dJ a) (dJ b)
theorem FK (n k b0 b1 b2 b3:Nat) (hn:1<=n) (hk:1<=k) (hc: (Lib.decodeN n b0 b1 b2 b3).2<=k):
 Lib.decodeN (min k n) b0 (if 1<k then b1 else 0) (if 2<k then b2 else 0) (if 3<k then b3 else 0)=Lib.decodeN n b0 b1 b2 b3:=by
 have c1: (1<min k n)=(1<k/\1<n):=propext om;have c2: (2<min k n)=(2<k/\2<n):=propext om;have c3: (3<min k n)=(3<k/\3<n):=propext om;revert hc;unfold Lib.decodeN;simp only[c1,c2,c3];rcases(by omega:k=1\/k=2\/k=3\/4<=k)with rfl|rfl|rfl|I
 ·simp only[Nat.lt_irrefl,if_false,Nat.zero_div,show¬(2<1) by decide,show¬(3<1) by decide,false_and,and_false]
  repeat' split
  all_goals first|(intro hc;rfl)|(intro hc;exfalso;simp only at hc;omega)|(intro hc;simp only at hc;omega)
 ·simp only[Nat.lt_irrefl,if_false,Nat.zero_div,if_true,show(1<2) by decide,show¬(3<2) by decide,false_and,and_false,true_and]
  repeat' split
  all_goals first|(intro hc;rfl)|(intro hc;exfalso;simp only at hc;omega)|(intro hc;simp only at hc;omega)
 ·simp only[Nat.lt_irrefl,if_false,Nat.zero_div,if_true,show(1<3) by decide,show(2<3) by decide,false_and,and_false,true_and]
  repeat' split
  all_goals first|(intro hc;rfl)|(intro hc;exfalso;simp only at hc;omega)|(intro hc;simp only at hc;omega)
 ·simp only[show 1<k by omega,show 2<k by omega,show 3<k by omega,true_and,if_true];intro _;trivial
theorem getD_take (l:List UInt8) (k i:Nat): ((l.take k).getD i 0).toNat=if i<k then(l.getD i 0).toNat else 0:=by
 rw[List.getD_eq_getElem?_getD,List.getElem?_take];split
 ·rw[List.getD_eq_getElem?_getD]
 ·rfl
theorem I9 (l:List UInt8) (k:Nat) (hl:l≠[]) (hk:1<=k) (hc: (rn l).2<=k):rn (l.take k)=rn l:=by
 have I:1<=l.length:=by cases l with|nil=>exact absurd rfl hl|cons a t=>simp
 have:=FK l.length k (l.getD 0 0).toNat (l.getD 1 0).toNat (l.getD 2 0).toNat (l.getD 3 0).toNat I hk hc;unfold rn;rw[getD_take,getD_take,getD_take,getD_take,List.length_take,if_pos (show 0<k by omega)];exact this
theorem Ic (l:List UInt8) (k:Nat) (hl:l≠[]) (hk: (it l).s.length<=k):it (l.take k)=it l:=by
 obtain⟨f1,f2,f3,-⟩:=jS l hl;have R:=iO l hl;have J: (rn l).2<=k:=by
  have U:=hk;unfold it at hk;by_cases I:iI l=true
  ·have: (rn l).2=1:=(by unfold iI at I;simp at I;exact I.2);omega
  ·rw[if_neg I]at hk;simp only[List.length_take]at hk;omega
 have:=I9 l k hl om J;unfold it iI;rw[this,List.take_take,List.take_take,Nat.min_eq_left J,Nat.min_eq_left om]
theorem Ii (n m b0 b1 b2 b3 c1 c2 c3:Nat) (hn:1<=n) (hnm:n<=m) (h1:1<n->c1=b1) (h2:2<n->c2=b2) (h3:3<n->c3=b3) (hc:Lib.decodeN n b0 b1 b2 b3≠(65533,1)):
 Lib.decodeN m b0 c1 c2 c3=Lib.decodeN n b0 b1 b2 b3:=by
 revert hc;unfold Lib.decodeN;rcases(by omega:n=1\/n=2\/n=3\/4<=n)with rfl|rfl|rfl|I
 ·simp only[Nat.lt_irrefl,show¬(2<1) by decide,show¬(3<1) by decide,false_and,and_false,if_false];intro hc;split
  ·rfl
  ·rename_i h;rw[if_neg h]at hc;exact absurd rfl hc
 ·obtain rfl:=h1 dc;simp only[Nat.lt_irrefl,show(1<2) by decide,show¬(3<2) by decide,false_and,and_false,if_false,true_and,show 1<m by omega];intro hc;by_cases g0:b0<128
  ·rw[if_pos g0,if_pos g0]
  ·rw[if_neg g0]at hc|-;rw[if_neg g0];by_cases g1:b0/32=6/\c1/64=2
   ·rw[if_pos g1,if_pos g1]
   ·rw[if_neg g1]at hc;exact absurd rfl hc
 ·obtain rfl:=h1 dc;obtain rfl:=h2 dc;simp only[Nat.lt_irrefl,show(1<3) by decide,show(2<3) by decide,false_and,and_false,if_false,true_and,show 1<m by omega,show 2<m by omega];intro hc;by_cases g0:b0<128
  ·rw[if_pos g0,if_pos g0]
  ·rw[if_neg g0]at hc|-;rw[if_neg g0];by_cases g1:b0/32=6/\c1/64=2
   ·rw[if_pos g1,if_pos g1]
   ·rw[if_neg g1]at hc|-;rw[if_neg g1];by_cases g2:b0/16=14/\c1/64=2/\c2/64=2
    ·rw[if_pos g2,if_pos g2]
    ·rw[if_neg g2]at hc;exact absurd rfl hc
 ·obtain rfl:=h1 om;obtain rfl:=h2 om;obtain rfl:=h3 om;simp only[show 1<m by omega,show 2<m by omega,show 3<m by omega,show 1<n by omega,show 2<n by omega,show 3<n by omega];intro _;trivial
theorem mc (l m:List UInt8) (i:Nat) (h:i<l.length): ((l++m).getD i 0).toNat=(l.getD i 0).toNat:=by rw[List.getD_eq_getElem?_getD,List.getElem?_append_left h,List.getD_eq_getElem?_getD]
theorem Lc (l m:List UInt8) (hl:l≠[]) (ho:iI l=false):it (l++m)=it l:=by
 have J:1<=l.length:=by cases l with|nil=>exact absurd rfl hl|cons a t=>simp
 have e:rn (l++m)=rn l:=by unfold rn;rw[mc l m 0 om];refine Ii l.length (l++m).length _ _ _ _ _ _ _ J sj (λh=>mc l m 1 h) (λh=>mc l m 2 h) (λh=>mc l m 3 h) (λh=>?_);have:rn l=(65533,1):=h;unfold iI at ho;rw[this]at ho;cases ho
 obtain⟨f1,f2,f3,-⟩:=jS l hl;unfold it;have I:iI (l++m)=false:=by unfold iI at ho|-;rw[e];exact ho
 rw[ho,I];simp only[Bool.false_eq_true,if_false];rw[e,List.take_append_of_le_length f3]
theorem K_ (l:List UInt8): (it l).iI=iI l:=by unfold it;split<;>simp_all
def ze (x:It):Prop:=x.iI=false/\x.s≠[]/\it x.s=x
theorem GK (l:List UInt8) (hl:l≠[]) (ho: (it l).iI=false):ze (it l):=by
 have h:=iO l hl;refine⟨ho,λe=>by rw[e]at h;simp at h,?_⟩
 conv=>lhs;rw[h.2.2.2]
 exact Ic l _ hl lh
theorem yV:∀(n:Nat) (l:List UInt8),l.length<=n->∀x∈bI l,x.iI=false->ze x:=by
 intro n;induction n with
 |zero=>intro l h x hx;have:l=[]:=List.eq_nil_of_length_eq_zero om;subst this;simp[fU]at hx
 |succ n ih=>
  intro l h x hx J;by_cases I:l=[]
  ·subst I;simp[fU]at hx
  ·have:=iO l I;rw[eT l I]at hx;rcases List.mem_cons.1 hx with rfl|hx
   ·exact GK l I J
   ·exact ih _ (by rw[List.length_drop];omega) x hx J
theorem qu (xs:List It) (h:∀x∈xs,ze x):bI (xs.flatMap It.s)=xs:=by
 induction xs with
 |nil=>rfl
 |cons x xs ih=>obtain⟨U,J,R⟩:=h x List.mem_cons_self;have I:x.s++xs.flatMap It.s≠[]:=(by simp[J]);have hi:it (x.s++xs.flatMap It.s)=x:=(by rw[Lc _ _ J (by rw[<-K_,R];exact U),R]);rw[List.flatMap_cons,eT _ I,hi,List.drop_left,ih λy j=>h y (List.mem_cons_of_mem _ j)]
theorem Ds (l:List UInt8):∀x∈bI l,kE x=true->ze x:=by intro x hx hs;refine yV _ l lh x hx ?_;unfold kE at hs;simp only[Bool.and_eq_true,Bool.not_eq_true']at hs;exact hs.1.1.1
theorem Cq:∀(xs:List It) (out:List UInt8) (n:Nat),(∀x∈xs,kE x=true->ze x)->n<=16->out.length<=24->
 ∃ys:List It,qd xs out n=out++ys.flatMap It.s/\(∀y∈ys,kE y=true/\ze y)/\n+ys.length<=16/\(qd xs out n).length<=24:=by
 intro xs;induction xs with
 |nil=>intro out n _ R U;exact⟨[],by simp[qd],by simp,by simpa using R,by simpa [qd]using U⟩
 |cons x xs ih=>
  intro out n j R U;have I:∀y∈xs,kE y=true->ze y:=λy J=>j y (List.mem_cons_of_mem _ J);unfold qd;by_cases hs:kE x=true
  ·rw[if_pos hs];by_cases o:n=16\/24<out.length+x.s.length
   ·rw[if_pos o];exact⟨[],by simp,by simp,by simpa using R,U⟩
   ·rw[if_neg o];obtain⟨ys,e,q1,q2,q3⟩:=ih (out++x.s) (n+1) I om (by rw[List.length_append];omega);refine⟨x::ys,by rw[e];simp,?_,by simp only[List.length_cons];omega,q3⟩;intro y J;rcases List.mem_cons.1 J with rfl|J
    ·exact⟨hs,j _ List.mem_cons_self hs⟩
    ·exact q1 y J
  ·rw[if_neg hs];exact ih out n I R U
theorem tT (l:List UInt8): (bI (cut l)).all kE=true/\(bI (cut l)).length<=16/\(cut l).length<=24:=by
 obtain⟨I,e,R,q2,U⟩:=Cq (bI l) [] 0 (Ds l) om sj;have j:cut l=I.flatMap It.s:=by unfold cut;rw[e];simp
 have o:bI (cut l)=I:=by rw[j];exact qu I λy J=>(R y J).2
 rw[o];exact⟨List.all_eq_true.2 λy J=>(R y J).1,by omega,U⟩
theorem e_ (l:List UInt8):dR l=true↔(∀x∈bI l,kE x=true)/\1<=l.length/\l.length<=24/\(bI l).length<=16/\l≠[46]/\l≠[46,46]:=by unfold dR;simp[List.all_eq_true,and_assoc]
theorem IQ (l:List UInt8):dR (fit l)=true:=by
 unfold fit;by_cases h:dR (cut l)=true
 ·rw[if_pos h];exact h
 ·rw[if_neg h];obtain⟨R,U,j⟩:=tT l;have:cut l=[]\/cut l=[46]\/cut l=[46,46]:=by
   rw[e_]at h;rcases Classical.em (cut l=[])with e|e
   ·exact .inl e
   ·right;rcases Classical.em (cut l=[46])with I|I
    ·exact .inl I
    ·right;rcases Classical.em (cut l=[46,46])with J|J
     ·exact J
     ·exfalso;refine h ⟨List.all_eq_true.1 R,?_,j,U,I,J⟩;cases hc:cut l with
      |nil=>exact absurd hc e
      |cons a t=>simp
  rcases this with e|e|e<;>rw[e]<;>decide+kernel
theorem my:∀(a b:List Int),fC a b=-fC b a
 |[],[]=>rfl
 |[],_::_=>rfl
 |_::_,[]=>rfl
 |x::xs,y::ys=>by
  unfold fC;have:=my xs ys
  repeat' split
  all_goals omega
theorem lA:∀(a b:List Int),-1<=fC a b/\fC a b<=1
 |[],[]=>by simp[fC]
 |[],_::_=>by simp[fC]
 |_::_,[]=>by simp[fC]
 |x::xs,y::ys=>by
  unfold fC;have:=lA xs ys
  repeat' split
  all_goals omega
theorem rU:∀(a b:List Int),fC a b=0↔a=b
 |[],[]=>by simp[fC]
 |[],_::_=>by simp[fC]
 |_::_,[]=>by simp[fC]
 |x::xs,y::ys=>by
  unfold fC;have:=rU xs ys;rw[List.cons.injEq]
  repeat' split
  ·simp;omega
  ·simp;omega
  ·rw[this];simp;omega
theorem po:∀(a b c:List Int),fC a b<=0->fC b c<=0->fC a c<=0
 |[],_,[]=>by simp[fC]
 |[],_,_::_=>by simp[fC]
 |_::_,[],_=>by simp[fC]
 |_::_,_::_,[]=>by intro _ h;simp[fC]at h
 |x::xs,y::ys,z::zs=>by
  unfold fC;have:=po xs ys zs
  repeat' split
  all_goals omega
theorem Ei {a b:List UInt8} (h:dJ a=dJ b):a=b:=by unfold dJ at h;exact(List.map_inj_right (λx y I=>UInt8.toNat_inj.1 om)).1 h
theorem lU (a b:List UInt8):ord a b=0↔a=b:=by unfold ord;rw[rU];exact⟨Ei,λh=>by rw[h]⟩
theorem gO:∀(a b:List UInt8),Op.bytesLess a b=decide (ord a b=-1)
 |[],[]=>rfl
 |[],_::_=>rfl
 |_::_,[]=>rfl
 |x::xs,y::ys=>by
  have I:=gO xs ys;unfold ord dJ at*;rw[Bool.eq_iff_iff,decide_eq_true_iff]at*;simp only[Op.bytesLess,Bool.or_eq_true,Bool.and_eq_true,decide_eq_true_eq,beq_iff_eq,I,List.map_cons,fC];have J:x<y↔(x.toNat:Int)<y.toNat:=(by rw[UInt8.lt_iff_toNat_lt];omega);have R:x=y↔(x.toNat:Int)=y.toNat:=⟨λh=>by rw[h],λh=>UInt8.toNat_inj.1 om⟩;rw[J,R]
  repeat' split
  all_goals omega
end Tl
namespace Et
open Go
structure E where
 n:List UInt8
 i:Int
 t:Int
deriving DecidableEq
def E.zero:E:=⟨[],0,0⟩
def BV (y:E):Bool:=decide (1<=y.i/\y.i<=39/\(y.t=1\/y.t=2))
def okB (y:E):Bool:=Tl.dR y.n&&BV y
def at_ (l:List E) (k:Nat):E:=l.getD k E.zero
def lM (l:List E) (k:Nat):Bool:=okB (at_ l k)&&(k==0||Tl.ord (at_ l (k-1)).n (at_ l k).n==-1)
def pA (l:List E) (k:Nat):Bool:=(List.range k).all (lM l)
def aV (l:List E):Bool:=decide (l.length<=30)&&pA l l.length
theorem C2 (l:List E) (k:Nat):pA l (k+1)=(pA l k&&lM l k):=by unfold pA;rw[List.range_succ,List.all_append];simp
theorem GV {l:List E} {k:Nat} (hk:k<l.length) (h:lM l k=false):pA l l.length=false:=by
 cases hu:pA l l.length with
 |false=>rfl
 |true=>unfold pA at hu;rw[List.all_eq_true.1 hu k (List.mem_range.2 hk)]at h;cases h
theorem IW {l:List E} {k:Nat} (hk:k<l.length) (h:lM l k=false):aV l=false:=by unfold aV;rw[GV hk h,Bool.and_false]
theorem ej (l:List E) (k:Nat) (h:k<l.length):at_ l k=l[k]:=by unfold at_;rw[List.getD_eq_getElem?_getD,List.getElem?_eq_getElem h];rfl
theorem uz (a b:List UInt8):Tl.ord b a=-Tl.ord a b:=Tl.my _ _
theorem tu (a b:List UInt8):Tl.ord a b=-1\/Tl.ord a b=0\/Tl.ord a b=1:=by have:=Tl.lA (Tl.dJ a) (Tl.dJ b);unfold Tl.ord;omega
theorem jD (a:List UInt8):Tl.ord a a=0:=(Tl.lU a a).2 rfl
theorem Dn {a b c:List UInt8} (h:Tl.ord a b=-1) (k:Tl.ord b c=-1):Tl.ord a c=-1:=by
 have J:Tl.ord a b<=0->Tl.ord b c<=0->Tl.ord a c<=0:=Tl.po _ _ _;have R:=J om om;rcases tu a c with I|I|I
 ·exact I
 ·have e:=(Tl.lU a c).1 I;subst e;have:=uz a b;omega
 ·omega
def lt (y z:E):Prop:=Tl.ord y.n z.n=-1
theorem Jz {x y z:E} (h:lt x y) (k:lt y z):lt x z:=Dn h k
theorem dd (l:List E):aV l=true↔l.length<=30/\(∀y∈l,okB y=true)/\l.Pairwise lt:=by
 unfold aV pA;rw[Bool.and_eq_true,decide_eq_true_iff,List.all_eq_true];constructor
 ·rintro⟨U,o⟩;have J:∀k (h:k<l.length),okB l[k]=true/\(0<k->Tl.ord (l[k-1]'om).n l[k].n=-1):=by
   intro k I;have:=o k (List.mem_range.2 I);unfold lM at this;rw[Bool.and_eq_true,ej l k I]at this;refine⟨this.1,λh0=>?_⟩;have R:=this.2;rw[ej l (k-1) om,Bool.or_eq_true,beq_iff_eq,beq_iff_eq]at R;rcases R with R|R
   ·omega
   ·exact R
  refine⟨U,λy hy=>?_,?_⟩
  ·obtain⟨k,I,rfl⟩:=List.mem_iff_getElem.1 hy;exact(J k I).1
  ·rw[List.pairwise_iff_getElem];intro i j hi hj A';obtain⟨d,rfl⟩:∃d,j=i+1+d:=⟨j-i-1,by omega⟩;induction d with
   |zero=>exact(J (i+1) hj).2 om
   |succ d ih=>have h5:=ih om om;have h6:=(J (i+1+(d+1)) hj).2 om;exact Jz h5 h6
 ·rintro⟨U,o,J⟩;refine⟨U,λk I=>?_⟩;have I:=List.mem_range.1 I;unfold lM;rw[Bool.and_eq_true,ej l k I];refine⟨o _ (List.getElem_mem I),?_⟩;rw[Bool.or_eq_true,beq_iff_eq,beq_iff_eq];by_cases h0:k=0
  ·exact .inl h0
  ·right;rw[ej l (k-1) om];exact List.pairwise_iff_getElem.1 J (k-1) k om I om
def jt (y:E):List UInt8:=UInt8.ofNat y.i.toNat::UInt8.ofNat y.t.toNat::UInt8.ofNat y.n.length::y.n
def enc (l:List E):List UInt8:=l.flatMap jt
theorem Fq (l:List E) (y:E):enc (l++[y])=enc l++jt y:=by unfold enc;rw[List.flatMap_append];simp
def oO (b:List UInt8):E:=⟨(b.drop 3).take (b.getD 2 0).toNat,((b.getD 0 0).toNat:Int),((b.getD 1 0).toNat:Int)⟩
def fB (b:List UInt8):List UInt8:=(b.drop 3).drop (b.getD 2 0).toNat
def oK (b:List UInt8):Bool:=decide (b.length<3)||decide ((b.drop 3).length<(b.getD 2 0).toNat)
def parse:Nat->List UInt8->Option (List E)
 |0,_=>some []
 |f+1,b=>if b=[]then some []else if oK b then none else(parse f (fB b)).map (oO b::·)
def dec (b:List UInt8):Option (List E):=parse b.length b
theorem pw (b:List UInt8) (h:b≠[]): (fB b).length<b.length:=by have:0<b.length:=List.length_pos_iff.2 h;unfold fB;simp only[List.length_drop];omega
theorem yX:∀(f:Nat) (b:List UInt8),b.length<=f->parse f b=parse b.length b:=by
 have key:∀(n f g:Nat) (b:List UInt8),b.length<=n->b.length<=f->b.length<=g->parse f b=parse g b:=by
  intro n;induction n with
  |zero=>intro f g b h _ _;have I:b=[]:=List.eq_nil_of_length_eq_zero om;subst I;cases f<;>cases g<;>rfl
  |succ n ih=>
   intro f g b J R U;by_cases I:b=[]
   ·subst I;cases f<;>cases g<;>rfl
   ·have j:0<b.length:=List.length_pos_iff.2 I;have o:=pw b I;obtain⟨f,rfl⟩:∃f',f=f'+1:=⟨f-1,by omega⟩;obtain⟨g,rfl⟩:∃g',g=g'+1:=⟨g-1,by omega⟩;unfold parse;rw[if_neg I,if_neg I,ih f g (fB b) om om om]
 intro f b h;exact key b.length f b.length b lh h lh
theorem IJ:dec []=some []:=rfl
theorem pH (b:List UInt8) (h:b≠[]):dec b=if oK b then none else(dec (fB b)).map (oO b::·):=by have J:0<b.length:=List.length_pos_iff.2 h;have R:=pw b h;unfold dec;obtain⟨f,I⟩:∃f',b.length=f'+1:=⟨b.length-1,by omega⟩;rw[I];rw[parse,if_neg h,yX f (fB b) om]
def jz (b:List UInt8):Bool:=match dec b with
 |some l=>aV l
 |none=>false
def mM (b:List UInt8):List E:=match dec b with
 |some l=>if aV l then l else []
 |none=>[]
def fD (b:List UInt8) (l:List E) (r:List UInt8):Prop:=dec b=(dec r).map (l++·)
theorem tD (b:List UInt8):fD b [] b:=by unfold fD;cases dec b<;>rfl
theorem nt {b r:List UInt8} {l:List E} (h:fD b l r) (hr:r≠[]) (hb:oK r=false):fD b (l++[oO r]) (fB r):=by
 unfold fD at h|-;rw[h,pH r hr,hb,if_neg dc];cases dec (fB r)with
 |none=>rfl
 |some m=>simp
theorem lB {b r:List UInt8} {l:List E} (h:fD b l r) (hr:r≠[]) (hb:oK r=true):jz b=false/\mM b=[]:=by unfold fD at h;rw[pH r hr,hb,if_pos rfl]at h;unfold jz mM;rw[h];exact⟨rfl,rfl⟩
theorem yI {b:List UInt8} {l:List E} (h:fD b l []):jz b=aV l/\mM b=if aV l then l else []:=by unfold fD at h;rw[IJ]at h;unfold jz mM;rw[h];simp
theorem vM {b r:List UInt8} {l:List E} (h:fD b l r) (hr:r≠[]) (hl:30<=l.length):jz b=false/\mM b=[]:=by
 cases hb:oK r with
 |true=>exact lB h hr hb
 |false=>
  have I:=nt h hr hb;unfold fD at I;unfold jz mM;rw[I];cases hd:dec (fB r)with
  |none=>exact⟨rfl,rfl⟩
  |some m=>have hm:aV ((l++[oO r])++m)=false:=(by unfold aV;rw[decide_eq_false (by simp;omega),Bool.false_and]);simp only[Option.map_some];rw[hm];exact⟨rfl,rfl⟩
theorem CM {n:List UInt8} (h:Tl.dR n=true):1<=n.length/\n.length<=24:=by unfold Tl.dR at h;simp at h;omega
theorem ib {y:E} (h:okB y=true): (1<=y.n.length/\y.n.length<=24)/\1<=y.i/\y.i<=39/\(y.t=1\/y.t=2):=by unfold okB BV at h;rw[Bool.and_eq_true,decide_eq_true_iff]at h;exact⟨CM h.1,h.2⟩
theorem xC (n:Nat) (h:n<256): (UInt8.ofNat n).toNat=n:=by rw[UInt8.toNat_ofNat'];omega
theorem Ak:∀l:List E,(∀y∈l,okB y=true)->dec (enc l)=some l
 |[],_=>rfl
 |y::l,h=>by have R:=ib (h y List.mem_cons_self);have e:enc (y::l)=jt y++enc l:=(by unfold enc;rw[List.flatMap_cons]);have I:enc (y::l)≠[]:=(by rw[e];unfold jt;simp);have J: ((enc (y::l)).getD 2 0).toNat=y.n.length:=(by rw[e];exact xC y.n.length om);have U: ((enc (y::l)).getD 0 0).toNat=y.i.toNat:=(by rw[e];exact xC y.i.toNat om);have j: ((enc (y::l)).getD 1 0).toNat=y.t.toNat:=(by rw[e];exact xC y.t.toNat om);have hd: (enc (y::l)).drop 3=y.n++enc l:=(by rw[e];unfold jt;simp);have o:oK (enc (y::l))=false:=(by unfold oK;rw[J,hd,decide_eq_false (by rw[e];unfold jt;simp),decide_eq_false sj];rfl);have hr:fB (enc (y::l))=enc l:=(by unfold fB;rw[J,hd,List.drop_left]);have he:oO (enc (y::l))=y:=(by unfold oO;rw[J,hd,List.take_left,U,j];obtain⟨n,i,t⟩:=y;simp only at R|-;rw[E.mk.injEq];refine⟨rfl,by omega,by omega⟩);rw[pH _ I,o,if_neg dc,hr,he,Ak l (λz hz=>h z (List.mem_cons_of_mem _ hz))];rfl
theorem EZ {l:List E} (hl:aV l=true):jz (enc l)=true/\mM (enc l)=l:=by have I:=Ak l ((dd l).1 hl).2.1;unfold jz mM;rw[I];simp only[hl,if_true,and_self]
end Et
end Go.Proofs.YtdhgejiacehpbaaGreatDoor
