import Derived.Test.YtdhgejiacehpbaaGreatDoorA18
set_option maxRecDepth 100000
set_option maxHeartbeats 16000000
set_option linter.all false
namespace Go.Proofs.YtdhgejiacehpbaaGreatDoor
open Go.Proofs.Tryz
namespace Co
open Go.RowKit
open SmW (aK)
attribute [local go_sem] Oper.semAt_some
section
variable {w:World} {c:C} {f:Fi}
theorem DH {cL l:KV} (h:wY cL l) (hs:keys cL=[0,1,2,3]):keys l=[0,1,2,3]:=by
 obtain⟨R,U,j⟩:=h;have I:∀k∈keys cL,∃v,bK l k=some v:=λk o=>by obtain⟨y,J,rfl⟩:=List.mem_map.1 o;exact j y J
 rw[hs]at I;obtain⟨v0,e0⟩:=I 0 dc;obtain⟨v1,e1⟩:=I 1 dc;obtain⟨v2,e2⟩:=I 2 dc;obtain⟨v3,e3⟩:=I 3 dc;have hr:bY [((0:Int),v0),(1,v1),(2,v2),(3,v3)]:=by unfold bY;simp
 have:l=[((0:Int),v0),(1,v1),(2,v2),(3,v3)]:=by
  refine qe R hr λk=>?_;by_cases k0:k=0
  ·subst k0;rw[e0];rfl
  by_cases k1:k=1
  ·subst k1;rw[e1];rfl
  by_cases k2:k=2
  ·subst k2;rw[e2];rfl
  by_cases k3:k=3
  ·subst k3;rw[e3];rfl
  rw[lj λy J e=>?_]
  ·simp only[bp,dq,if_neg (Ne.symm k0),if_neg (Ne.symm k1),if_neg (Ne.symm k2),if_neg (Ne.symm k3)]
  ·rcases U y J with h|h
   ·exact k0 (e▸h)
   ·have:y.1∈keys cL:=List.mem_map.2 ⟨y,h,rfl⟩;rw[hs,e]at this;simp at this;omega
 rw[this];rfl
theorem Nf:∀args x,(callFunc 202 args).run prog x=.ok (.enter 202 args) x:=λargs x=>by have h:=func202;go_simp
theorem FA (z:Int) (A:Option Addr) (n k:Nat) (V:World): (Instr.build 314 #[(0,i6 z),(1,.slice A n k)]).run prog V=.ok (.agg #[i6 z,.slice A n k,.slice none 0 0,.slice none 0 0]) V:=run_build V 314 _ _ kj
theorem Ir (h:bD w c [f]):Calls prog 15 #[pt c.g 0] w λe w'=>∃A k,e=.returned (.slice A 1 k)/\w'.ownsRow w.heap.size 3 1 (.slice A 1 k) 1 [i6 1]/\Bw w w':=by
 have c6:w.cell? (ae c.g 6)=some (.map (some c.files)):=(h.cell _).trans (cg h.len);have R:=ja (mU h.files (fa 0 [f]) (by rw[jZ];show 1<=100000;decide));clear h;go_enter func15,ntmps15;go_wp2_with fail
 refine R.a.mono ?_;rintro e U ⟨v,rfl,I,J⟩;have I:U.ownsRow w.heap.size 3 1 v 1 [i6 1]:=I;obtain⟨A,k,rfl⟩:=Dv.aX I;have j:=Lib.hid (⟨I,J⟩:_/\_);clear I J;go_wp2;go_ret;exact⟨_,_,rfl,j.out⟩
theorem Ky: (prog.info? 314).map (λi=>(i.zero,i.size,i.bytes))=some (some (.agg #[i6 0,.slice none 0 0,.slice none 0 0,.slice none 0 0]),4,80):=by kernel_rfl
def Oz (w:World) (q:Nat) (V:World):Prop:=
 ∃wv A1 A2 c1 c2 Ae ce,ak V (q+1) 266 [wv,.slice none 0 0,.slice Ae 1 ce]/\V.ownsRow w.heap.size 314 4 wv 1 [i6 1,.slice A1 0 c1,.slice A2 0 c2,.slice none 0 0]/\V.ownsRow w.heap.size 310 4 (.slice Ae 1 ce) 1 (aK [⟨3,1,0,0⟩])/\
  ak V q 266 [.slice none 0 0,.slice none 0 0,.slice none 0 0]/\Bw w V
def Nq (w:World) (e:Ending) (w':World):Prop:=
 ∃wv sv ev A1 A2 c1 c2,e=.returned (.agg #[wv,sv,ev])/\w'.ownsRow w.heap.size 314 4 wv 1 [i6 1,.slice A1 0 c1,.slice A2 0 c2,.slice none 0 0]/\w'.ownsRow w.heap.size 3 1 sv 4 [i6 0,i6 1,i6 2,i6 3]/\
  w'.ownsRow w.heap.size 310 4 ev 5 (aK l5)/\Bw w w'
theorem xO {V V':World} {p B n t ty:Nat} {ev:Value} {xs cs pc:List Value} (hT:af (λb=>b=p\/ev.ownBlock=some b) V V') (hp:ak V p 266 pc) (ho:V.ownsRow B 310 4 ev n xs) (hk:ak V t ty cs) (h1:ty≠266) (h2:ty≠310):ak V' t ty cs:=hT.blk hk λe=>e.elim (λe=>aR hk hp h1 e) λe=>Dv.aO ho hk (λe=>h2 e.symm) t e rfl
theorem xq {V V':World} {p B B' n n' sz ty:Nat} {ev v:Value} {xs ys pc:List Value} (hT:af (λb=>b=p\/ev.ownBlock=some b) V V') (hp:ak V p 266 pc) (ho:V.ownsRow B 310 4 ev n xs) (hv:V.ownsRow B' ty sz v n' ys) (h1:ty≠266) (h2:ty≠310):V'.ownsRow B' ty sz v n' ys:=Dv.aJ hv hT λb e h=>by obtain⟨cs,I⟩:=pD hv e;exact h.elim (λh=>aR I hp h1 h) λh=>Dv.aO ho I (λe=>h2 e.symm) b h rfl
theorem Dx (h:bD w c [f]) (hwn:f.cU=none) (hvs:f.vs=[]) (hst:keys c.cL=[0,1,2,3]) (hsr:bY c.cL) (hg:∀y∈c.b_,0<=y.1/\y.1<10) (hgl:c.b_.length<=100):Calls prog 158 #[pt c.g 0] w (Nq w):=by
 have H:=ja h;have HG:=jd hst hsr hg hgl;clear h hst hsr hg hgl;have J3:∀(fn:Fn) (first cap:Array Value) (w:World),(Instr.makeFunc fn first cap).run prog w=.ok (.func fn first cap) w:=λ_ _ _ _=>rfl;have Jx:=Nf;go_enter func158,ntmps158;go_upto_region 2 with fail
 obtain⟨q,hq⟩:=ex w.heap.size;obtain⟨w1,e1,k1,b1,s1⟩:=ax w 266 #[.slice none 0 0,.slice none 0 0,.slice none 0 0] q hq;rw[e1];obtain⟨w2,e2,k2,b2,s2⟩:=ax w1 266 #[.slice none 0 0,.slice none 0 0,.slice none 0 0] (q+1) s1;rw[show(w.heap.size+1)=q+1 by omega]at*;rw[e2,hq];have HQ:=ja hq;have Bt:Below w.heap.size w w1:=hq▸b1;have Bu:Below w1.heap.size w1 w2:=s1▸b2;have K2:=jc (k1.ext Bu) k2 (Bt.trans (Bu.mono Bt.size));have S2:=ja s2;clear e1 k1 b1 s1 e2 k2 b2 s2 Bt Bu hq;go_wp2_with fail
 refine(Ir (H.a.below K2.c)).mono ?_;rintro e w3 ⟨A,k,rfl,I,b3⟩;obtain⟨gi,ki,ei⟩:=ownsRow_succ I;injection ei with ei _ H9;subst ei H9;have F6:=K2.c.size;have K3:=je (K2.a.ext b3) (K2.b.ext b3) (K2.c.trans (b3.mono F6)) (Ad.dn I F6) I;clear I b3;go_wp2;go_loopw [6,7,8,13] (λ_ _ _ B1 wr=>(B1=i6 0/\w3=wr)\/(B1=i6 1/\Oz w q wr)) (λ_ _ _ B1 _=>1-(intOf B1).toNat)
 case atStart=>exact .inl ⟨rfl,rfl⟩
 case round=>
  rcases hrel with⟨rfl,rfl⟩|⟨rfl,hM⟩
  ·obtain⟨_,_,e5,_,_,_,h5⟩:=bw.aG K3.e;injection e5 with e5;subst e5;obtain⟨_,_,e6,_,h6⟩:=h5 dc;injection e6 with e6;injection e6 with e6 e7;subst e6 e7;have xg:w3.cell? (ae gi 0)=some (i6 1):=h6 0 _ rfl;have AR:=H.a.below K3.c;have xc:w3.cell? (ae c.g 6)=some (.map (some c.files)):=(AR.cell 6).trans (cg AR.len);have By:=AR.files.look az underlying95 (z:=.pointer none) kj 1 (WalkArith.wf_i64 om);rw[show bK (kC [f]) 1=some (pt f.g 0)from j7 [f] 0]at By;simp only[Option.getD_some]at By;have HA:=ja (AR.fi 0 f rfl);have HB:=ja AR;clear h5 h6 AR;(go_wp2_with fail);refine(jR HA.a (by rw[hvs];decide)).mono ?_;rintro e w4 ⟨b,rfl,F7,b4⟩;obtain rfl:=F7 hwn;have C4:=HB.a.below b4;have CC:=C4.fi 0 f rfl;have K4:=jc (K3.a.ext b4) (K3.b.ext b4) (K3.c.trans (b4.mono K3.c.size));have xf:w4.cell? (ae f.g 26)=some (.map (some f.fresh)):=CC.blk.cell 26;have HD:=ja (xI (b:=f.fresh) (l:=[]) (by have:=CC.fresh;rw[hvs]at this;exact this) fR dc);have HE:=ja C4;clear xg xc By CC C4 b4 F7;(go_wp2_with fail);refine HD.a.mono ?_;rintro e w5 ⟨vd,rfl,od,b5⟩;obtain⟨A4,A5,rfl⟩:=Dv.aX od;have od:w5.ownsRow w4.heap.size 3 1 (.slice A4 0 A5) 0 []:=od;simp only[List.length_nil];have F8:=HE.a.below b5;have K5:=jd (K4.a.ext b5) (K4.b.ext b5) (K4.c.trans (b5.mono K4.c.size)) od;have HF:=ja F8;have HH:=FA 1 A4 0 A5;have K0:=b5.size;clear xf od b5 F8;(go_upto_region 9 with fail);obtain⟨r,hr⟩:=ex w5.heap.size;obtain⟨w6,e6,k6,b6,s6⟩:=ax w5 314 #[i6 1,.slice A4 0 A5,.slice none 0 0,.slice none 0 0] r hr;rw[e6,hr];have Aa:Below w5.heap.size w5 w6:=hr▸b6;have Cd:=HF.a.below Aa;have K6:=je (K5.a.ext Aa) (K5.b.ext Aa) (K5.c.trans (Aa.mono K5.c.size)) (aD K5.d Aa) k6;have K1:=K4.c.size;have HI:=HQ.a;have Co:=ja (show q+1<r/\w6.heap.size=r+1/\w.heap.size<=w4.heap.size by have:=K5.b.lt;omega);have HM:=ja (kK (Cd.fi 0 f rfl) Cd.gl.D_ (oa K6.b.lt) (by rw[hvs];decide));clear e6 k6 b6 s6 Aa hr HH Cd;(go_wp2_with fail);refine HM.a.mono ?_;rintro e w7 ⟨u,rfl,ou,b7⟩;obtain⟨Au,cu,rfl⟩:=Dv.aX ou;have k7:=K6.e.ext b7;have f2:=k7.frozen 2;have f3:=k7.frozen 3;have y2:=k7.cell 2;have y3:=k7.cell 3;have U:=jf (K6.a.ext b7) (K6.b.ext b7) (K6.c.trans (b7.mono K6.c.size)) (aD K6.d b7) k7 ou;clear b7 k7 ou;(go_upto_region 10 with fail);obtain⟨w8,D0⟩:=ex ((w7.setCell (ae r 2) (.slice Au 0 cu)).setCell (ae r 3) (.slice none 0 0));have T8:af (· =r) w7 w8:=D0▸(af.setCell w7 r 2 _).trans (af.setCell _ r 3 _) λ_ e=>.inl e;have kr:=(U.e.aC 2 (.slice Au 0 cu)).aC 3 (.slice none 0 0);rw[D0]at kr|-;have Ab:Below w.heap.size w w8:=((af.aj (X:=λ_=>False) U.c).trans T8 λb e=>.inr (by have e:b=r:=e;have:=Co.a;omega)).bm lh λ_ e=>e.elim;have kq:=T8.blk U.a (oa Co.a);have B2:=T8.blk U.b (oa Co.a);have od:=Dv.aJ U.d T8 λb e h=>(by subst h;exact Dv.aO U.d U.e dc _ e rfl);have ou:=Dv.aJ U.f T8 λb e h=>(by subst h;exact Dv.aO U.f U.e dc _ e rfl);have K8:=jf kq B2 Ab od kr ou;have FZ:=Ab.size;have y1:w8.cell? (ae r 1)=some (.slice A4 0 A5):=kr.cell 1;have HN:=ja (mj w.heap.size (q+1) (.slice none 0 0) (.slice none 0 0) (.slice none 0 0) [] B2 (World.ownsRow_nil _ _ _ _) FZ 1 1 (.slice A4 0 A5) [] (bw.aG od) dc (λb e=>⟨Dv.aO od B2 dc b e,λe=>by cases e⟩));clear f2 f3 y2 y3 T8 kr Ab kq B2 od ou D0;(go_wp2_with fail);refine HN.a.mono ?_;rintro e w9 ⟨rfl,A9,c9,k9,o9,T9,n9⟩;have k9:ak w9 (q+1) 266 [.slice none 0 0,.slice none 0 0,.slice A9 0 c9]:=k9;have o9:w9.ownsRow w.heap.size 310 4 (.slice A9 0 c9) 0 (aK []):=o9;have D3:=World.ownsRow_nil w8 w.heap.size 310 4;have D5:=xO T9 K8.b D3 K8.e dc dc;have Ao:=xq T9 K8.b D3 K8.f dc dc;have R:w.heap.size<=q+1:=(by have:=HQ.a;omega);have E1:Below w.heap.size w w9:=((af.aj (X:=λ_=>False) K8.c).trans T9 λb e=>.inr (e.elim (λe=>by rw[e];exact R) λe=>by cases e)).bm lh λ_ e=>e.elim;have G1:ak w9 q 266 [.slice none 0 0,.slice none 0 0,.slice none 0 0]:=T9.blk K8.a λe=>e.elim (λe=>by omega) λe=>(by cases e);have K9:=jf k9 o9 D5 Ao E1 G1;have HO:=ja (mj w.heap.size (q+1) (.slice none 0 0) (.slice none 0 0) (.slice A9 0 c9) [] k9 o9 E1.size 2 1 (.slice Au 0 cu) [] (bw.aG Ao) dc (λb e=>⟨Dv.aO Ao k9 dc b e,λe'=>by obtain⟨cs,hk⟩:=pD Ao e;exact Dv.aO o9 hk dc b e' rfl⟩));have y2:w9.cell? (ae r 2)=some (.slice Au 0 cu):=D5.cell 2;clear k9 o9 D5 Ao E1 G1 T9 n9 D3 y1;(go_wp2_with fail);refine HO.a.mono ?_;rintro e A6 ⟨rfl,E4,E5,dS,Aq,B3,HP⟩;have dS:ak A6 (q+1) 266 [.slice none 0 0,.slice none 0 0,.slice E4 0 E5]:=dS;have Aq:A6.ownsRow w.heap.size 310 4 (.slice E4 0 E5) 0 (aK []):=Aq;have Ar:=xO B3 K9.a K9.b K9.c dc dc;have AI:Below w.heap.size w A6:=((af.aj (X:=λ_=>False) K9.e).trans B3 λb e=>.inr (e.elim (λe=>by rw[e];exact R) λe=>(K9.b.lt b e).1)).bm lh λ_ e=>e.elim;have As:ak A6 q 266 [.slice none 0 0,.slice none 0 0,.slice none 0 0]:=B3.blk K9.f λe=>e.elim (λe=>by omega) λe=>Dv.aO K9.b K9.f dc _ e rfl;have HR:=je dS Aq Ar AI As;obtain⟨KA,HS,jr,kT,N4⟩:=ax A6 3 #[i6 0] _ rfl;have J:=jf (dS.ext kT) (aD Aq kT) (Ar.ext kT) (AI.trans (kT.mono AI.size)) (As.ext kT) jr;have B4:=kT.size;have HT:=ja (mj w.heap.size (q+1) (.slice none 0 0) (.slice none 0 0) (.slice E4 0 E5) [] J.a J.b J.d.size 3 1 (.slice (some ⟨A6.heap.size,0,none⟩) 1 1) [0] (bw.more (jr.fe 0 1 1 1 sj lh (by rw[aq];decide)) om) dc (λb e=>by obtain rfl:A6.heap.size=b:=(by injection e);exact⟨aR jr J.a dc,λe'=>by have:=(HR.b.lt _ e').2;omega⟩));clear dS Aq Ar AI As B3 HP y2 jr kT N4 B4;(go_wp2_with fail);refine HT.a.mono ?_;rintro e A7 ⟨rfl,E6,E7,Ax,B5,B6,HU⟩;have Ax:ak A7 (q+1) 266 [.slice none 0 0,.slice none 0 0,.slice E6 1 E7]:=Ax;have B5:A7.ownsRow w.heap.size 310 4 (.slice E6 1 E7) 1 (aK [⟨3,1,0,0⟩]):=B5;have o:=xO B6 J.a J.b J.c dc dc;have BO:Below w.heap.size w A7:=((af.aj (X:=λ_=>False) J.d).trans B6 λb e=>.inr (e.elim (λe=>by rw[e];exact R) λe=>(J.b.lt b e).1)).bm lh λ_ e=>e.elim;have BQ:ak A7 q 266 [.slice none 0 0,.slice none 0 0,.slice none 0 0]:=B6.blk J.e λe=>e.elim (λe=>by omega) λe=>Dv.aO J.b J.e dc _ e rfl;have x0:=Ax.cell 0;have z0:=o.cell 0;have z1:=o.cell 1;have z2:=o.cell 2;have z3:=o.cell 3;have Ah:=je Ax B5 o BO BQ;clear Ax B5 o BO BQ B6 HU HS;(go_wp2_with(at_builtin;refine bT ?_));obtain⟨G2,G5,G7,B7,HV⟩:=ax A7 314 #[i6 1,.slice A4 0 A5,.slice Au 0 cu,.slice none 0 0] _ rfl;rw[G5];have E8:w.heap.size<=G2.heap.size:=(by have:=Ah.d.size;have:=B7.size;omega);obtain⟨v',E9,Bg,I,G8,HW⟩:=aE (P:=prog) (ty:=263) underlying263 Ky rfl dc (World.ownsRow_nil G2 w.heap.size 314 4) (G7.fe 0 1 1 4 sj lh (by rw[aq];decide)) (by intro u hu;simp at hu;rcases hu with rfl|rfl|rfl|rfl<;>rfl) (by rw[aq];decide) dc E8;refine aN rfl _ _ _ rfl rfl rfl Bg ?_;obtain⟨EC,EK,rfl⟩:=Dv.aX I;have A0:Below A7.heap.size A7 E9:=B7.grown G8 B7.size (λj e=>by cases e);have B8:=Ah.a.ext A0;have f0:=B8.frozen 0;have x0:=B8.cell 0;have A':=je B8 (aD Ah.b A0) I (Ah.d.trans (A0.mono Ah.d.size)) (Ah.e.ext A0);clear G5 G7 B7 HV I G8 HW Bg A0 B8 z0 z1 z2 z3;go_wp2;have B':=af.setCell E9 (q+1) 0 (.slice EC 1 EK);have HZ:=ja (show Oz w q (E9.setCell (ae (q+1) 0) (.slice EC 1 EK))from⟨.slice EC 1 EK,A4,Au,A5,cu,E6,E7,A'.a.aC 0 _,Dv.aJ A'.c B' (λb e h=>by
    subst h;exact Dv.aO A'.c A'.a dc _ e rfl),Dv.aJ A'.b B' (λb e h=>by
    subst h;exact Dv.aO A'.b A'.a dc _ e rfl),B'.blk A'.e om,((af.aj (X:=λ_=>False) A'.d).trans B' λb e=>.inr (by rw[e];exact R)).bm lh λ_ e=>e.elim⟩)
   clear B' f0 x0;go_roundw;case rel=>exact⟨_,_,_,_,.inr ⟨rfl,HZ.a⟩,rfl,rfl,rfl,rfl⟩
   case measure=>simp[intOf]
  ·obtain⟨wv,A1,A2,c1,c2,Ae,ce,kp,ow,oe,kq,hb⟩:=hM;have EX:=H.a.below hb;have HC:=ja EX;have HK:=je kp ow oe kq hb;have HX:=ja (g_ EX (show 1<=8 by decide) HG.b (by
    have:=congrArg List.length HG.a;unfold keys at this;simp at this;omega) HG.c HG.d (λf' HY=>by
    obtain rfl:f'=f:=(by simpa using HY);rw[hvs];decide))
   clear kp ow oe kq hb EX;(go_wp2_with fail);refine HX.a.mono ?_;rintro e w5 ⟨b,l,rfl,H0,F',KC,b5⟩;have F0:=DH F' HG.a;have H2:l.length=4:=(by have:=congrArg List.length F0;unfold keys at this;simpa using this);have Hw:=ja (kZ H0 F'.1 om);have Im:=HK.e.size;have H3:=HK.e.trans (b5.mono Im);have K5:=je (HK.a.ext b5) (aD HK.b b5) (aD HK.c b5) (HK.d.ext b5) H3;have HL:=jb F0 H2;clear H0 F' b5 F0 H2 H3;(go_wp2_with fail);refine Hw.a.mono ?_;rintro e w6 ⟨v,rfl,os,b6⟩;rw[HL.a,HL.b]at os;have os:w6.ownsRow w5.heap.size 3 1 v 4 [i6 0,i6 1,i6 2,i6 3]:=os;obtain⟨Av,cv,rfl⟩:=Dv.aX os;have R:w.heap.size<=q+1:=(by have:=HQ.a;omega);have k6:=K5.a.ext b6;have f1:=k6.frozen 1;have y1:=k6.cell 1;have H4:=K5.e.size;have K6:=jf k6 (aD K5.b b6) (aD K5.c b6) (K5.d.ext b6) (K5.e.trans (b6.mono H4)) (Ad.dn os H4);clear k6 b6 os;(go_upto_region 16 with fail);obtain⟨w7,F1⟩:=ex (w6.setCell (ae (q+1) 1) (.slice Av 4 cv));have T7:af (· =q+1) w6 w7:=F1▸af.setCell w6 (q+1) 1 _;have k7:=K6.a.aC 1 (.slice Av 4 cv);rw[F1]at k7|-;have B9:∀{e sz n B:Nat} {v:Value} {xs:List Value},w6.ownsRow B e sz v n xs->e≠266->w7.ownsRow B e sz v n xs:=λh F2=>Dv.aJ h T7 λb e h'=>(by subst h';exact Dv.aO h K6.a F2 _ e rfl);have H5:=B9 K6.b dc;have BB:=B9 K6.c dc;have B0:=B9 K6.f dc;have H6:=T7.blk K6.d om;have F3:Below w.heap.size w w7:=((af.aj (X:=λ_=>False) K6.e).trans T7 λb e=>.inr (by rw[e];exact R)).bm lh λ_ e=>e.elim;have J1:=k7.cell 1;have J2:=ja (mj w.heap.size (q+1) wv (.slice Av 4 cv) (.slice Ae 1 ce) [⟨3,1,0,0⟩] k7 BB F3.size 4 0 (.slice Av 4 cv) [0,1,2,3] (bw.aG B0) dc (λb e=>⟨Dv.aO B0 k7 dc b e,λe'=>by obtain⟨cs,hk⟩:=pD B0 e;exact Dv.aO BB hk dc b e' rfl⟩));have U:=jf k7 H5 BB B0 H6 F3;clear f1 y1 T7 k7 B9 H5 BB B0 H6 F3 F1;(go_wp2_with fail);refine J2.a.mono ?_;rintro e w8 ⟨rfl,A8,c8,k8,o8,T8,n8⟩;have k8:ak w8 (q+1) 266 [wv,.slice Av 4 cv,.slice A8 5 c8]:=k8;have o8:w8.ownsRow w.heap.size 310 4 (.slice A8 5 c8) 5 (aK l5):=o8;have F4:=xq T8 U.a U.c U.b dc dc;have H7:=xq T8 U.a U.c U.d dc dc;have A3:ak w8 q 266 [.slice none 0 0,.slice none 0 0,.slice none 0 0]:=T8.blk U.e λe=>e.elim (λe=>by omega) λe=>Dv.aO U.c U.e dc _ e rfl;have Ab:Below w.heap.size w w8:=((af.aj (X:=λ_=>False) U.f).trans T8 λb e=>.inr (e.elim (λe=>by rw[e];exact R) λe=>(U.c.lt b e).1)).bm lh λ_ e=>e.elim;obtain⟨Aw,cw,rfl⟩:=Dv.aX F4;have x0:=k8.cell 0;have x1:=k8.cell 1;have x2:=k8.cell 2;have u0:=A3.cell 0;have u1:=A3.cell 1;have u2:=A3.cell 2;have f0:=A3.frozen 0;have f1:=A3.frozen 1;have f2:=A3.frozen 2;have K8:=jf k8 F4 H7 o8 A3 Ab;clear k8 F4 H7 o8 A3 Ab T8 n8 J1;go_wp2;have z:=((K8.e.aC 0 (.slice Aw 1 cw)).aC 1 (.slice Av 4 cv)).aC 2 (.slice A8 5 c8);have TZ:af (· =q) w8 (((w8.setCell (ae q 0) (.slice Aw 1 cw)).setCell (ae q 1) (.slice Av 4 cv)).setCell (ae q 2) (.slice A8 5 c8)):=((af.setCell w8 q 0 _).trans (af.setCell _ q 1 _) λ_ e=>.inl e).trans (af.setCell _ q 2 _) λ_ e=>.inl e;generalize((w8.setCell (ae q 0) (.slice Aw 1 cw)).setCell (ae q 1) (.slice Av 4 cv)).setCell (ae q 2) (.slice A8 5 c8)=w9 at*;refine bodyPost_ret (v:=.agg #[.slice Aw 1 cw,.slice Av 4 cv,.slice A8 5 c8]) (cZ [.slice Aw 1 cw,.slice Av 4 cv,.slice A8 5 c8] _ results158 rfl z.range underlying266 rfl kj) rfl ?_;have HI:=HQ.a;have F5:∀{e sz n B:Nat} {v:Value} {xs:List Value},w8.ownsRow B e sz v n xs->e≠266->w9.ownsRow B e sz v n xs:=λh F2=>Dv.aJ h TZ λb e h'=>(by subst h';exact Dv.aO h K8.e F2 _ e rfl);exact⟨_,_,_,A1,A2,c1,c2,rfl,F5 K8.b dc,F5 K8.c dc,F5 K8.d dc,((af.aj (X:=λ_=>False) K8.f).trans TZ λb e=>.inr (by have e:b=q:=e;omega)).bm lh λ_ e=>e.elim⟩
end
end Co
namespace Co
open Go.RowKit
section
variable {w w':World}
def Ff (a s:Int) (l1 l2 l3 l4 l5:Nat) (x:X) (pb:Nat) (age:Int):List Value:=i6 a:: .int .u32 s::(x.cells++[.map (some l1),.map (some l2),.map (some l3),.map (some l4),.map (some l5),.bool false,pt pb 0,i6 age])
theorem wh (ty ar bN tick:Int) (age:Int) (pb l1 l2 l3 l4 l5:Nat) (V:World):
 (Instr.build 155 #[(1,.agg (X.cells ⟨ty,ar,bN,0,tick⟩).toArray),(8,pt pb 0),(9,i6 age),(2,.map (some l1)),(3,.map (some l2)),(4,.map (some l3)),(5,.map (some l4)),(6,.map (some l5))]).run prog V=.ok (.agg (Ff 0 0 l1 l2 l3 l4 l5 ⟨ty,ar,bN,0,tick⟩ pb age).toArray) V:=by
 kernel_rfl
def Fi.of (g l1 l2 l3 l4 l5:Nat) (p:W) (age:Int):Fi:=⟨g,l1,l2,l3,l4,l5,p.at_,p.sum,p.x.ty,p.x.ar,p.x.bN,p.x.tick,some p,age,[],[]⟩
def Lx (w:World) (p:W) (age:Int) (e:Ending) (w':World):Prop:=
 ∃g l1 l2 l3 l4 l5,e=.returned (pt g 0)/\ak w' g 155 (Fi.of g l1 l2 l3 l4 l5 p age).cells/\ay w' prog 3 l1 []/\ay w' prog 3 l2 []/\ay w' prog 3 l3 []/\ay w' prog 3 l4 []/\ay w' prog 3 l5 []/\
  (w.heap.size<=l2/\l2<l3/\l3<l4/\l4<l5/\l5<g/\g<l1/\l1<w'.heap.size)/\Bw w w'
theorem yJ (p:W) (ty ar bN tick:Int) (hpx:p.x=⟨ty,ar,bN,0,tick⟩) (hp:ak w p.b 260 p.cells) (hd:ay w prog 3 p.data []) (age:Int):
 Calls prog 115 #[.agg (X.cells ⟨ty,ar,bN,0,tick⟩).toArray,pt p.b 0,i6 age] w (Lx w p age):=by
 obtain⟨U,J⟩:=ex p.b;have HP:=jd hpx hp hd J;rw[J];clear hpx hp hd J;have hb:=λl1 l2 l3 l4 l5 V=>wh ty ar bN tick age U l1 l2 l3 l4 l5 V;have Ao:=@run_makeMap prog;have A7:=xM ⟨ty,ar,bN,0,tick⟩;obtain⟨R,hR⟩:∃R:Nat->Nat->Nat->Nat->Nat->List Value,R=λl1 l2 l3 l4 l5=>Ff 0 0 l1 l2 l3 l4 l5 ⟨ty,ar,bN,0,tick⟩ U age:=⟨_,rfl⟩;have A8:∀l1 l2 l3 l4 l5 V,(Instr.build 155 #[(1,.agg (X.cells ⟨ty,ar,bN,0,tick⟩).toArray),(8,pt U 0),(9,i6 age),(2,.map (some l1)),(3,.map (some l2)),(4,.map (some l3)),(5,.map (some l4)),(6,.map (some l5))]).run prog V=.ok (.agg (R l1 l2 l3 l4 l5).toArray) V:=λl1 l2 l3 l4 l5 V=>by rw[hR];exact hb l1 l2 l3 l4 l5 V
 have HR:=ja hR;clear hb hR;generalize X.cells ⟨ty,ar,bN,0,tick⟩=xs at A8 A7|-;have AR:=ja A7;clear A7;go_enter func115,ntmps115;go_upto_region 1 with fail
 have hr: (w.alloc (.cells xs.toArray 41)).rangeAt w.heap.size 0 xs:=(ak.new w 41 xs.toArray).range;have HB:=ja A8;clear A8;go_upto_region 3 with(first|refine aw 41 (.tmp 3) rfl rfl w.heap.size 0 rfl xs _ hr underlying41 rfl AR.a ?_|(refine wpList_build rfl 155 [(1,.tmp 8),(8,.tmp 9),(9,.tmp 10),(2,.tmp 11),(3,.tmp 12),(4,.tmp 13),(5,.tmp 14),(6,.tmp 15)] rfl (r:=?r) ?h1 ?_;case h1=>exact HB.a _ _ _ _ _ _))
 have Aa:=HR.a;subst Aa;have m1:=ay.made (w.alloc (.cells xs.toArray 41)) prog 3;obtain⟨o,A'⟩:=ex (w.alloc (.cells xs.toArray 41));have s0:o.heap.size=w.heap.size+1:=by rw[<-A'];simp
 have b0:Below w.heap.size w o:=by rw[<-A'];exact bh.alloc lh _
 rw[A'];clear A' hr m1;obtain⟨n,hn⟩:=ex w.heap.size;rw[hn]at s0 b0|-;have a1:=ay.made o prog 3;rw[s0]at a1;have s1: (o.alloc (.map #[] 0)).heap.size=n+1+1:=by simp[s0]
 have a2:=ay.made (o.alloc (.map #[] 0)) prog 3;rw[s1]at a2;have s2: ((o.alloc (.map #[] 0)).alloc (.map #[] 0)).heap.size=n+1+1+1:=by simp[s0]
 have a3:=ay.made ((o.alloc (.map #[] 0)).alloc (.map #[] 0)) prog 3;rw[s2]at a3;have s3: (((o.alloc (.map #[] 0)).alloc (.map #[] 0)).alloc (.map #[] 0)).heap.size=n+1+1+1+1:=by simp[s0]
 have a4:=ay.made (((o.alloc (.map #[] 0)).alloc (.map #[] 0)).alloc (.map #[] 0)) prog 3;rw[s3]at a4;have s4: ((((o.alloc (.map #[] 0)).alloc (.map #[] 0)).alloc (.map #[] 0)).alloc (.map #[] 0)).heap.size=n+1+1+1+1+1:=by simp[s0]
 have a5:=ay.made ((((o.alloc (.map #[] 0)).alloc (.map #[] 0)).alloc (.map #[] 0)).alloc (.map #[] 0)) prog 3;rw[s4]at a5;have s5: (((((o.alloc (.map #[] 0)).alloc (.map #[] 0)).alloc (.map #[] 0)).alloc (.map #[] 0)).alloc (.map #[] 0)).heap.size=n+1+1+1+1+1+1:=by simp[s0]
 have a6:=ak.new (((((o.alloc (.map #[] 0)).alloc (.map #[] 0)).alloc (.map #[] 0)).alloc (.map #[] 0)).alloc (.map #[] 0)) 155 (Ff 0 0 (n+1) (n+1+1) (n+1+1+1) (n+1+1+1+1) (n+1+1+1+1+1) ⟨ty,ar,bN,0,tick⟩ U age).toArray;rw[s5]at a6;have hle:n<=o.heap.size:=by omega
 dsimp only;have A1:=((((a1.alloc (.map #[] 0)).alloc (.map #[] 0)).alloc (.map #[] 0)).alloc (.map #[] 0)).alloc (.cells (Ff 0 0 (n+1) (n+1+1) (n+1+1+1) (n+1+1+1+1) (n+1+1+1+1+1) ⟨ty,ar,bN,0,tick⟩ U age).toArray 155);have A2:=(((a2.alloc (.map #[] 0)).alloc (.map #[] 0)).alloc (.map #[] 0)).alloc (.cells (Ff 0 0 (n+1) (n+1+1) (n+1+1+1) (n+1+1+1+1) (n+1+1+1+1+1) ⟨ty,ar,bN,0,tick⟩ U age).toArray 155);have A3:=((a3.alloc (.map #[] 0)).alloc (.map #[] 0)).alloc (.cells (Ff 0 0 (n+1) (n+1+1) (n+1+1+1) (n+1+1+1+1) (n+1+1+1+1+1) ⟨ty,ar,bN,0,tick⟩ U age).toArray 155);have A4:=(a4.alloc (.map #[] 0)).alloc (.cells (Ff 0 0 (n+1) (n+1+1) (n+1+1+1) (n+1+1+1+1) (n+1+1+1+1+1) ⟨ty,ar,bN,0,tick⟩ U age).toArray 155);have A5:=a5.alloc (.cells (Ff 0 0 (n+1) (n+1+1) (n+1+1+1) (n+1+1+1+1) (n+1+1+1+1+1) ⟨ty,ar,bN,0,tick⟩ U age).toArray 155);have B6:Below n w ((((((o.alloc (.map #[] 0)).alloc (.map #[] 0)).alloc (.map #[] 0)).alloc (.map #[] 0)).alloc (.map #[] 0)).alloc (.cells (Ff 0 0 (n+1) (n+1+1) (n+1+1+1) (n+1+1+1+1) (n+1+1+1+1+1) ⟨ty,ar,bN,0,tick⟩ U age).toArray 155)):=(((((b0.alloc om _).alloc (by rw[s1];omega) _).alloc (by rw[s2];omega) _).alloc (by rw[s3];omega) _).alloc (by rw[s4];omega) _).alloc (by rw[s5];omega) _;have S6: ((((((o.alloc (.map #[] 0)).alloc (.map #[] 0)).alloc (.map #[] 0)).alloc (.map #[] 0)).alloc (.map #[] 0)).alloc (.cells (Ff 0 0 (n+1) (n+1+1) (n+1+1+1) (n+1+1+1+1) (n+1+1+1+1+1) ⟨ty,ar,bN,0,tick⟩ U age).toArray 155)).heap.size=n+7:=by rw[World.size_alloc,s5]
 generalize(((((o.alloc (.map #[] 0)).alloc (.map #[] 0)).alloc (.map #[] 0)).alloc (.map #[] 0)).alloc (.map #[] 0)).alloc (.cells (Ff 0 0 (n+1) (n+1+1) (n+1+1+1) (n+1+1+1+1) (n+1+1+1+1+1) ⟨ty,ar,bN,0,tick⟩ U age).toArray 155)=w6 at*;clear a1 a2 a3 a4 a5 s0 s1 s2 s3 s4 s5 b0 hle;have A0:Below w.heap.size w w6:=hn▸B6;have J:=HP.d;have kp:ak w6 U 260 p.cells:=J▸HP.b.ext A0;have c0:w6.cell? (ae U 0)=some (i6 p.at_):=kp.cell 0;have c1:w6.cell? (ae U 1)=some (.int .u32 p.sum):=kp.cell 1;have f0:=a6.frozen 0;have f1:=a6.frozen 1;have u0:w6.cell? (ae (n+1+1+1+1+1+1) 0)=some (i6 0):=a6.cell 0;have u1:w6.cell? (ae (n+1+1+1+1+1+1) 1)=some (.int .u32 0):=a6.cell 1;have Ab:U≠n+1+1+1+1+1+1:=by have:=HP.b.lt;rw[J,hn]at this;omega
 have H6:=jj A1 A2 A3 A4 A5 A0 S6 a6 kp (HP.c.ext A0);have HN:=ja hn;clear A1 A2 A3 A4 A5 A0 S6 a6 kp B6 J hn;go_upto_region 4 with fail
 obtain⟨w7,A6⟩:=ex ((w6.setCell (ae (n+1+1+1+1+1+1) 0) (i6 p.at_)).setCell (ae (n+1+1+1+1+1+1) 1) (.int .u32 p.sum));have T7:af (· =n+1+1+1+1+1+1) w6 w7:=A6▸(af.setCell w6 (n+1+1+1+1+1+1) 0 _).trans (af.setCell _ (n+1+1+1+1+1+1) 1 _) λ_ e=>.inl e;have k7:=(H6.h.aC 0 (i6 p.at_)).aC 1 (.int .u32 p.sum);rw[A6]at k7|-;have S7:w7.heap.size=n+7:=by rw[<-A6];simpa using H6.g
 have A9:=T7.blk H6.i Ab;have Ad:w7.cell? (ae U 25)=some (.map (some p.data)):=A9.cell 25;have I:∀{b:Nat} {l:KV},ay w6 prog 3 b l->ay w7 prog 3 b l:=λhm=>T7.map hm (aP hm H6.h);have hn:=HN.a;have AI:Below w.heap.size w w7:=((af.aj (X:=λ_=>False) H6.f).trans T7 λb e=>.inr (by have e:b=n+1+1+1+1+1+1:=e;omega)).bm lh λ_ e=>e.elim;have K7:=jh k7 (I H6.b) (I H6.c) (I H6.d) (I H6.e) (I H6.j) AI S7;clear T7 k7 S7 A9 I AI A6 c0 c1 f0 f1 u0 u1 hn;go_wp2_with fail
 refine(iY K7.f).mono ?_;rintro e w8 ⟨l1,rfl,Ae,Ah,m1,b8⟩;have k8:=K7.a.ext b8;have f25:=k8.frozen 25;have u25:w8.cell? (ae (n+1+1+1+1+1+1) 25)=some (.map (some (n+1))):=k8.cell 25;have K8:=jg k8 (K7.b.ext b8) (K7.c.ext b8) (K7.d.ext b8) (K7.e.ext b8) m1 (K7.g.trans (b8.mono K7.g.size));clear k8 m1 b8 Ad;go_wp2;go_ret;have T9:=af.setCell w8 (n+1+1+1+1+1+1) 25 (.map (some l1));have I:∀{b:Nat} {l:KV},ay w8 prog 3 b l->ay (w8.setCell (ae (n+1+1+1+1+1+1) 25) (.map (some l1))) prog 3 b l:=λhm=>T9.map hm (aP hm K8.a);have h1:=Ae.out;have h2:=Ah.out;have h3:=K7.h;have hn:=HN.a;refine⟨n+1+1+1+1+1+1,l1,n+1+1,n+1+1+1,n+1+1+1+1,n+1+1+1+1+1,rfl,?_,I K8.f,I K8.b,I K8.c,I K8.d,I K8.e,⟨by omega,by omega,by omega,by omega,by omega,by omega,by rw[World.size_setCell];omega⟩,?_⟩
 ·have:=K8.a.aC 25 (.map (some l1));have hpx:=HP.a;have J:=HP.d;simp only[Fi.of,Fi.cells,Fi.x,Fi.maps,tV,J,hpx];exact this
 ·exact((af.aj (X:=λ_=>False) K8.g).trans T9 λb e=>.inr (by have e:b=n+1+1+1+1+1+1:=e;omega)).bm lh λ_ e=>e.elim
end
end Co
namespace Co
open Go.RowKit
section
variable {w w':World} {c:C} {fs:List Fi}
structure nC (w:World) (c:C) (fs:List Fi) (X:Nat->Prop):Prop where
 own:∀b,X b->b<w.heap.size->c.own b=0
 gl:∀b,b<=1->¬X b
 bad:¬X c.k.bad
 aU:∀b,c.k.aU.ownBlock=some b->¬X b
 cU:∀(i:Nat) (f:Fi) (p:W),fs[i]? =some f->f.cU=some p->¬X p.b/\¬X p.data/\¬X p.nodes
 jW:∀(i:Nat) (f:Fi) (n:Nat) (v:Value) (b:Nat),fs[i]? =some f->f.vs[n]? =some v->v.ownBlock=some b->¬X b
theorem bD.rD {X:Nat->Prop} (h:bD w c fs) (ht:af X w w') (o:nC w c fs X):bD w' c fs:=by
 have own:∀b,b<w.heap.size->c.own b≠0->¬X b:=λb U hb e=>hb (o.own b e U);exact{
  core:=ht.blk h.core (own _ h.core.lt (by rw[h.o1];decide))
  len:=h.len
  files:=ht.map h.files (own _ h.files.lt (by rw[h.o2];decide))
  gone:=ht.map h.gone (own _ h.gone.lt (by rw[h.o3];decide))
  aB:=ht.map h.aB (own _ h.aB.lt (by rw[h.o4];decide))
  bad:=ht.map h.bad o.bad
  o1:=h.o1
  o2:=h.o2
  o3:=h.o3
  o4:=h.o4
  ob:=h.ob
  hi:=λb j=>h.hi b (Nat.le_trans ht.size j)
  fi:=λi f hf=>by
   have I:=h.fi i f hf;exact{
    blk:=ht.blk I.blk (own _ I.blk.lt (by rw[I.o0];omega))
    cA:=ht.map I.cA (own _ I.cA.lt (by rw[I.o1];omega))
    fresh:=ht.map I.fresh (own _ I.fresh.lt (by rw[I.o2];omega))
    bA:=ht.map I.bA (own _ I.bA.lt (by rw[I.o3];omega))
    lost:=ht.map I.lost (own _ I.lost.lt (by rw[I.o4];omega))
    nodes:=ht.map I.nodes (own _ I.nodes.lt (by rw[I.o5];omega))
    o0:=I.o0
    o1:=I.o1
    o2:=I.o2
    o3:=I.o3
    o4:=I.o4
    o5:=I.o5
    cU:=λp hp=>by have J:=I.cU p hp;have hX:=o.cU i f p hf hp;exact⟨ht.blk J.blk hX.1,ht.map J.data hX.2.1,ht.map J.nodes hX.2.2,J.o0,J.o1,J.o2⟩
    jW:=λn v hv=>by have hO:=I.jW n v hv;exact⟨af.bs ht hO.1 λg hg=>o.jW i f n v g hf hv hg,hO.2⟩
    ok:=I.ok}
  aU:=⟨(ht.fe h.aU.1 lh o.aU).more ht.size,λb R=>⟨(h.aU.2 b R).1,Nat.lt_of_lt_of_le (h.aU.2 b R).2 ht.size⟩⟩
  gl:={
   halves:=λk hk=>(ht.cell (p:=ae 1 k) h.gl.lt (o.gl 1 dc)).trans (h.gl.halves k hk)
   D_:=λk n hn=>(ht.cell (p:=ae 0 k) (Nat.lt_trans Nat.zero_lt_one h.gl.lt) (o.gl 0 dc)).trans (h.gl.D_ k n hn)
   og:=h.gl.og}
  gM:=h.gM}
theorem nC.below {X:Nat->Prop} (h:bD w c fs) (o:nC w c fs X):nC w' c fs X:=
 ⟨λb e I=>by
  by_cases J:b<w.heap.size
  ·exact o.own b e J
  ·exact h.hi b om,o.gl,o.bad,o.aU,o.cU,o.jW⟩
end
end Co
namespace Ck
open Pk (iQ bO)
open Crc (bR)
open Nd (pW pV jK jy)
structure Ck where
 s:Int
 n:Int
 a:Int
 mp:List (Int×Nat)
 us:List Int
deriving DecidableEq
def BM (p:Int×Nat):Bool:=decide (1<=p.1/\p.1<=2147483647)
def vB (u:Int):Bool:=decide (0<=u/\u<=256)
def De (s n a:Int):Bool:=decide (1<=s/\s<=281474976710655/\1<=n/\n<=281474976710655/\1<=a/\a<=2147483647)
def aV (x:Ck):Bool:=De x.s x.n x.a&&(x.mp.all BM&&x.us.all vB)
def uW (n:Nat):List Int:=List.replicate n 2
def uV (us:List Int):List Nat:=us.map Int.toNat
def Hj:List Int:=[4,6,6,4]++(pW 4++uW 8)
def Jk (x:Ck):List Nat:=[1667985524,x.s.toNat,x.n.toNat,x.a.toNat]++(pV x.mp++uV x.us)
def NA (x:Ck):List UInt8:=bR (bO (Hj.zip (Jk x)))
def Good (x:Ck):Prop:=x.mp.length=4/\x.us.length=8/\∀p∈x.mp,p.2<4294967296
theorem eR {x:Ck} (h:aV x=true): (1<=x.s/\x.s<=281474976710655/\1<=x.n/\x.n<=281474976710655/\1<=x.a/\x.a<=2147483647)/\x.mp.all BM=true/\x.us.all vB=true:=by unfold aV De at h;rw[Bool.and_eq_true,Bool.and_eq_true,decide_eq_true_iff]at h;exact h
theorem L8 {ps:List (Int×Nat)} (h:ps.all BM=true):ps.all Nd.dj=true:=by rw[List.all_eq_true]at h|-;intro p hp;have:=h p hp;unfold BM at this;unfold Nd.dj;rw[decide_eq_true_iff]at this|-;omega
theorem Eg:∀(us:List Int),us.all vB=true->∀x∈(uW us.length).zip (uV us),iQ x=0
 |[],_,x,hx=>by simp[uW,uV]at hx
 |u::us,h,x,hx=>by
  unfold uW uV at hx;rw[List.length_cons,List.replicate_succ,List.map_cons,List.zip_cons_cons]at hx;simp only[List.all_cons,Bool.and_eq_true]at h;have I:=h.1;unfold vB at I;rw[decide_eq_true_iff]at I;rcases List.mem_cons.1 hx with rfl|hx
  ·refine Pk.dy rfl ?_;simp;omega
  ·exact Eg us h.2 x hx
theorem J8 (us:List Int): (uV us).length=us.length:=by unfold uV;simp
theorem Jc (x:Ck) (hg:Good x): (Jk x).length=Hj.length:=by unfold Jk Hj;simp only[List.length_append,jy,jK,J8,hg.1,hg.2.1];rfl
theorem Ks (x:Ck) (hm:aV x=true) (hg:Good x):∀y∈Hj.zip (Jk x),iQ y=0:=by
 obtain⟨h1,h2,h3⟩:=eR hm;intro y hy;unfold Hj Jk at hy;rw[Nd.eK _ _ _ _ rfl]at hy;rcases List.mem_append.1 hy with hy|hy
 ·simp only[List.zip_cons_cons,List.zip_nil_right,List.mem_cons,List.not_mem_nil,or_false]at hy;rcases hy with rfl|rfl|rfl|rfl<;>refine Pk.dy rfl ?_<;>simp<;>omega
 ·rw[Nd.eK _ _ _ _ (by rw[jK,jy,hg.1])]at hy;rcases List.mem_append.1 hy with hy|hy
  ·rw[<-hg.1]at hy;exact Nd.sD x.mp (L8 h2) hg.2.2 y hy
  ·rw[<-hg.2.1]at hy;exact Eg x.us h3 y hy
theorem AK (x:Ck) (hg:Good x): (bO (Hj.zip (Jk x))).length=68:=Cd.fh Hj _ (Jc x hg)
end Ck
namespace CkW
open Go.RowKit Go.ChangeShapes Go.WideShapes Go.ChangeAt
def aZ (ps:List (Int×Nat)):List Value:=ps.flatMap λp=>[i6 p.1,.int .u32 (p.2:Int)]
theorem cY (l:List (Int×Nat)): (aZ l).length=l.length*2:=by
 induction l with
 |nil=>rfl
 |cons x l ih=>unfold aZ at ih|-;rw[List.flatMap_cons,List.length_append,ih,List.length_cons,List.length_cons,List.length_cons,List.length_nil];omega
theorem mX (p:Int×Nat) (l:List (Int×Nat)):aZ (p::l)=i6 p.1:: .int .u32 (p.2:Int)::aZ l:=by unfold aZ;rw[List.flatMap_cons];rfl
theorem dL:∀(l:List (Int×Nat)) (k:Nat) (h:k<l.length),(aZ l)[k*2]? =some (i6 l[k].1)/\(aZ l)[k*2+1]? =some (.int .u32 (l[k].2:Int))
 |x::l,0,_=>⟨rfl,rfl⟩
 |x::l,k+1,h=>by have:=dL l k (by simpa using h);rw[mX,show(k+1)*2=k*2+1+1 by omega];exact this
theorem ee.aG {w:World} {base:Nat} {e:TypeId} {v:Value} {l:List (Int×Nat)} (h:w.ownsRow base e 2 v l.length (bg l)):ee w w.heap.size v l:=bw.aG h
def fE (us:List Int):List Value:=us.map λu=>i6 u
def bQ (x:Ck.Ck):List Value:=i6 x.s::i6 x.n::i6 x.a::(aZ x.mp++fE x.us)
def C1 (x:Ck.Ck):Value:=.agg (bQ x).toArray
theorem iB (us:List Int): (fE us).length=us.length:=by unfold fE;simp
theorem xy (x:Ck.Ck) (h:x.mp.length=4) (h':x.us.length=8): (bQ x).length=19:=by unfold bQ;simp only[List.length_cons,List.length_append,cY,iB,h,h']
theorem JJ (x:Ck.Ck) (h:x.mp.length=4) (h':x.us.length=8): (prog.info? 317).map (·.size)=some (bQ x).length:=by rw[xy x h h'];kernel_rfl
theorem zq (x:Ck.Ck) (k:Nat) (h:k<x.mp.length): (bQ x)[3+k*2]? =some (i6 x.mp[k].1)/\(bQ x)[3+k*2+1]? =some (.int .u32 (x.mp[k].2:Int)):=by unfold bQ;have I:=cY x.mp;have hp:=dL x.mp k h;rw[show 3+k*2=k*2+1+1+1 by omega];simp only[List.getElem?_cons_succ];rw[List.getElem?_append_left om,List.getElem?_append_left om];exact hp
theorem vU (x:Ck.Ck) (hm:x.mp.length=4) (k:Nat) (h:k<x.us.length): (bQ x)[11+k]? =some (i6 x.us[k]):=by unfold bQ;have I:=cY x.mp;rw[show 11+k=k+8+1+1+1 by omega];simp only[List.getElem?_cons_succ];rw[List.getElem?_append_right om,show k+8-(aZ x.mp).length=k by omega];unfold fE;rw[List.getElem?_map,List.getElem?_eq_getElem h];rfl
theorem qY {α:Type} (f:α->Bool) (d:α):∀l:List α,(List.range l.length).all (λi=>f (l.getD i d))=l.all f:=by
 intro l;rw[Bool.eq_iff_iff,List.all_eq_true,List.all_eq_true];constructor
 ·intro h x hx;obtain⟨i,hi,rfl⟩:=List.getElem_of_mem hx;have:=h i (List.mem_range.2 hi);simpa [List.getD,hi]using this
 ·intro h i hi;have I:=List.mem_range.1 hi;have:=h l[i] (List.getElem_mem I);simpa [List.getD,I]using this
theorem oD (p:Nat->Bool) (k:Nat) (h: (List.range k).all p=true) (h2:p k=true): (List.range (k+1)).all p=true:=by rw[List.range_succ,List.all_append,h];simp[h2]
theorem uT (p:Nat->Bool) (k n:Nat) (h:k<n) (h2:p k=false): (List.range n).all p=false:=by
 cases hq: (List.range n).all p with
 |false=>rfl
 |true=>have:=List.all_eq_true.1 hq k (List.mem_range.2 h);rw[h2]at this;cases this
theorem uj (K:Nat) (c0:Value) (n:Nat) (p:Nat->Bool) (w:World) (hK:∀args w,(callFunc K args).run prog w=.ok (.enter K args) w) (hn:n<=100)
 (h:∀i:Nat,i<n->∀w1:World,Bw w w1->Calls prog K #[i6 (i:Int),c0] w1 λe w'=>e=.returned (.bool (p i))/\Bw w1 w'):
 Calls prog 276 #[i6 (n:Int),.func (.func K) #[] #[c0]] w λe w'=>e=.returned (.bool ((List.range n).all p))/\Bw w w':=by
 have j:=ja h;clear h;go_enter func276,ntmps276;go_wp2;go_loopw [7] (λi wr=>∃k:Nat,k<=n/\i=i6 k/\(List.range k).all p=true/\Bw w wr) (λi _=>n-(intOf i).toNat)
 case atStart=>exact⟨0,Nat.zero_le _,rfl,rfl,Below.refl _ _⟩
 case round=>
  obtain⟨k,hk,rfl,J,I⟩:=hrel;have U:=ja J;clear J;by_cases R:k<n
  ·(go_wp2_with fail);refine(j.a k R _ I).mono ?_;rintro e w1 ⟨rfl,o⟩;have c1:=I.trans (o.mono I.size);cases hp:p k with
   |true=>
    have H:=ja (oD p k U.a hp);clear hp;go_wp2;go_roundw;case rel=>exact⟨k+1,by omega,by go_num,H.a,c1⟩
    case measure=>exact ms
   |false=>have H:=ja (uT p k n R hp);clear hp;go_wp2;go_ret;exact⟨by rw[H.a];rfl,c1⟩
  ·obtain rfl:k=n:=(by omega);go_wp2;go_ret;exact⟨by rw[U.a];rfl,I⟩
theorem D2 (K:Nat) (c0 c1:Value) (n:Nat) (p:Nat->Bool) (w:World) (hK:∀args w,(callFunc K args).run prog w=.ok (.enter K args) w) (hn:n<=100)
 (h:∀i:Nat,i<n->∀w1:World,Bw w w1->Calls prog K #[i6 (i:Int),c0,c1] w1 λe w'=>e=.returned (.bool (p i))/\Bw w1 w'):
 Calls prog 276 #[i6 (n:Int),.func (.func K) #[] #[c0,c1]] w λe w'=>e=.returned (.bool ((List.range n).all p))/\Bw w w':=by
 have j:=ja h;clear h;go_enter func276,ntmps276;go_wp2;go_loopw [7] (λi wr=>∃k:Nat,k<=n/\i=i6 k/\(List.range k).all p=true/\Bw w wr) (λi _=>n-(intOf i).toNat)
 case atStart=>exact⟨0,Nat.zero_le _,rfl,rfl,Below.refl _ _⟩
 case round=>
  obtain⟨k,hk,rfl,J,I⟩:=hrel;have U:=ja J;clear J;by_cases R:k<n
  ·(go_wp2_with fail);refine(j.a k R _ I).mono ?_;rintro e w1 ⟨rfl,o⟩;have c1:=I.trans (o.mono I.size);cases hp:p k with
   |true=>
    have H:=ja (oD p k U.a hp);clear hp;go_wp2;go_roundw;case rel=>exact⟨k+1,by omega,by go_num,H.a,c1⟩
    case measure=>exact ms
   |false=>have H:=ja (uT p k n R hp);clear hp;go_wp2;go_ret;exact⟨by rw[H.a];rfl,c1⟩
  ·obtain rfl:k=n:=(by omega);go_wp2;go_ret;exact⟨by rw[U.a];rfl,I⟩
def Kx (v m:Int):Bool:=decide (1<=v/\v<=m)
def Ml (v:Int):Bool:=decide (1<=v/\v<=2147483647)
theorem yl (k g1 g2:Nat) (v m:Int) (w:World) (hk:k<3) (h1:w.cell? (ae g1 k)=some (i6 v)) (h2:w.cell? (ae g2 k)=some (i6 m)):
 Calls prog 273 #[i6 (k:Int),pt g1 0,pt g2 0] w λe w'=>e=.returned (.bool (Kx v m))/\Bw w w':=by
 have i1: (k:Int)<3:=by omega
 by_cases I:1<=v
 ·have H:=ja (show Kx v m=decide (v<=m) by unfold Kx;simp[I]);go_enter func273,ntmps273;go_wp2;go_quiet (fail);go_wp2;go_ret;exact⟨by rw[H.a];rfl,below_drewN bh _⟩
 ·have H:=ja (show Kx v m=false by unfold Kx;simp[I]);have hd:decide (1<=v)=false:=(by simpa using I);go_enter func273,ntmps273;go_wp2;go_quiet (fail);go_wp2;go_ret;exact⟨by rw[H.a];rfl,below_drewN bh _⟩
theorem sM (k g:Nat) (v:Int) (w:World) (hk:k<4) (h1:w.cell? (ae g (3+k*2))=some (i6 v)):
 Calls prog 274 #[i6 (k:Int),pt g 0] w λe w'=>e=.returned (.bool (Ml v))/\Bw w w':=by
 have i1: (k:Int)<4:=by omega
 by_cases I:1<=v
 ·have H:=ja (show Ml v=decide (v<=2147483647) by unfold Ml;simp[I]);go_enter func274,ntmps274;go_wp2;go_ret;exact⟨by rw[H.a];rfl,Below.refl _ _⟩
 ·have H:=ja (show Ml v=false by unfold Ml;simp[I]);have hd:decide (1<=v)=false:=(by simpa using I);go_enter func274,ntmps274;go_wp2;go_ret;exact⟨by rw[H.a];rfl,Below.refl _ _⟩
theorem CD (k g:Nat) (v:Int) (w:World) (hk:k<8) (h1:w.cell? (ae g (11+k))=some (i6 v)):
 Calls prog 275 #[i6 (k:Int),pt g 0] w λe w'=>e=.returned (.bool (Ck.vB v))/\Bw w w':=by
 have i1: (k:Int)<8:=by omega
 by_cases I:0<=v
 ·have H:=ja (show Ck.vB v=decide (v<=256) by unfold Ck.vB;simp[I]);go_enter func275,ntmps275;go_wp2;go_ret;exact⟨by rw[H.a];rfl,Below.refl _ _⟩
 ·have H:=ja (show Ck.vB v=false by unfold Ck.vB;simp[I]);have hd:decide (0<=v)=false:=(by simpa using I);go_enter func275,ntmps275;go_wp2;go_ret;exact⟨by rw[H.a];rfl,Below.refl _ _⟩
def MO (x:Ck.Ck) (i:Nat):Bool:=Kx ([x.s,x.n,x.a].getD i 0) (([281474976710655,281474976710655,2147483647]:List Int).getD i 0)
theorem Hv (x:Ck.Ck): (List.range 3).all (MO x)=Ck.De x.s x.n x.a:=by unfold Ck.De;rw[Bool.eq_iff_iff,decide_eq_true_iff];simp[MO,Kx,List.range,List.range.loop];omega
theorem uY (x:Ck.Ck) (w:World) (hm:x.mp.length=4) (hu:x.us.length=8):
 Calls prog 239 #[C1 x] w λe w'=>e=.returned (.bool (Ck.aV x))/\Bw w w':=by
 have HM:=ja (show Ck.aV x=((List.range 3).all (MO x)&&((List.range 4).all (λi=>Ck.BM (x.mp.getD i (0,0)))&&(List.range 8).all (λi=>Ck.vB (x.us.getD i 0)))) by rw[Hv,show(List.range 4).all (λi=>Ck.BM (x.mp.getD i (0,0)))=x.mp.all Ck.BM by rw[<-hm];exact qY Ck.BM (0,0) x.mp,show(List.range 8).all (λi=>Ck.vB (x.us.getD i 0))=x.us.all Ck.vB by rw[<-hu];exact qY Ck.vB 0 x.us];rfl);have HU:=ja (And.intro hm hu);clear hm hu;unfold C1;go_enter func239,ntmps239;go_upto_region 1 with(fail)
 have U:=ak.new w 317 (bQ x).toArray;have hb:=(Below.refl w.heap.size w).alloc lh (.cells (bQ x).toArray 317);change ak _ _ _ (bQ x)at U;generalize w.alloc (.cells (bQ x).toArray 317)=w0 at*;generalize w.heap.size=gq at U|-;have c0:=U.cell 0;have c1:=U.cell 1;have c2:=U.cell 2;unfold bQ at c0 c1 c2;simp only[List.getElem?_cons_zero,List.getElem?_cons_succ]at c0 c1 c2;have HK:=ja U;clear U;go_wp2_with fail
 have k1:=(ak.new w0 403 #[i6 x.s,i6 x.n,i6 x.a]).alloc (.cells #[i6 281474976710655,i6 281474976710655,i6 2147483647] 403);have k2:=ak.new (w0.alloc (.cells #[i6 x.s,i6 x.n,i6 x.a] 403)) 403 #[i6 281474976710655,i6 281474976710655,i6 2147483647];simp only[World.size_alloc]at k2;have k0:=(HK.a.alloc (.cells #[i6 x.s,i6 x.n,i6 x.a] 403)).alloc (.cells #[i6 281474976710655,i6 281474976710655,i6 2147483647] 403);have b0:=(hb.alloc hb.size (.cells #[i6 x.s,i6 x.n,i6 x.a] 403)).alloc (by rw[World.size_alloc];exact Nat.le_succ_of_le hb.size) (.cells #[i6 281474976710655,i6 281474976710655,i6 2147483647] 403);generalize(w0.alloc (.cells #[i6 x.s,i6 x.n,i6 x.a] 403)).alloc (.cells #[i6 281474976710655,i6 281474976710655,i6 2147483647] 403)=W at*;clear c0 c1 c2 hb HK;have H1:=ja (λ(J:World) (b:Bw W J)=>D2 273 (pt w0.heap.size 0) (pt (w0.heap.size+1) 0) 3 (MO x) J (enters_of func273 kj rfl) om (λi hi j R=>by have o:=((k1.ext b).ext R).cell i;have q2:=((k2.ext b).ext R).cell i;rcases(by omega:i=0\/i=1\/i=2)with rfl|rfl|rfl<;>exact yl _ _ _ _ _ j om o q2));have H2:=ja (λ(J:World) (b:Bw W J)=>uj 274 (pt gq 0) 4 (λi=>Ck.BM (x.mp.getD i (0,0))) J (enters_of func274 kj rfl) om (λi hi j R=>by have I:i<x.mp.length:=(by rw[HU.a.1];exact hi);have o:=((k0.ext b).ext R).cell (3+i*2);rw[(zq x i I).1]at o;have:=sM i gq _ j hi o;have e:Ck.BM (x.mp.getD i (0,0))=Ml x.mp[i].1:=(by rw[List.getD_eq_getElem?_getD,List.getElem?_eq_getElem I];rfl);simp only[e];exact this));have H3:=ja (λ(J:World) (b:Bw W J)=>uj 275 (pt gq 0) 8 (λi=>Ck.vB (x.us.getD i 0)) J (enters_of func275 kj rfl) om (λi hi j R=>by have I:i<x.us.length:=(by rw[HU.a.2];exact hi);have o:=((k0.ext b).ext R).cell (11+i);rw[vU x HU.a.1 i I]at o;have:=CD i gq _ j hi o;have e:x.us.getD i 0=x.us[i]:=(by rw[List.getD_eq_getElem?_getD,List.getElem?_eq_getElem I];rfl);simp only[e];exact this));clear k0 k1 k2;generalize(List.range 3).all (MO x)=B1 at*;generalize(List.range 4).all (λi=>Ck.BM (x.mp.getD i (0,0)))=B2 at*;generalize(List.range 8).all (λi=>Ck.vB (x.us.getD i 0))=B3 at*;refine(H1.a W bh).mono ?_;rintro e J ⟨rfl,b1⟩;cases B1 with
 |false=>go_wp2;go_ret;exact⟨by rw[HM.a];rfl,b0.trans (b1.mono b0.size)⟩
 |true=>
  (go_wp2_with fail);refine(H2.a J b1).mono ?_;rintro e j ⟨rfl,R⟩;have d2:=b1.trans (R.mono b1.size);cases B2 with
  |false=>go_wp2;go_ret;exact⟨by rw[HM.a];rfl,b0.trans (d2.mono b0.size)⟩
  |true=>(go_wp2_with fail);refine(H3.a j d2).mono ?_;rintro e w3 ⟨rfl,b3⟩;have d3:=d2.trans (b3.mono d2.size);go_wp2;go_ret;exact⟨by rw[HM.a];rfl,b0.trans (d3.mono b0.size)⟩
def Na (x:Ck.Ck):Int:=if Ck.aV x then x.s%2 else-1
theorem CO (x:Ck.Ck) (w:World) (hm:x.mp.length=4) (hu:x.us.length=8):
 Calls prog 207 #[C1 x] w λe w'=>e=.returned (i6 (Na x))/\Bw w w':=by
 unfold C1;go_enter func207,ntmps207;go_upto_region 1 with(fail)
 have J:=ak.new w 317 (bQ x).toArray;have R:=(Below.refl w.heap.size w).alloc lh (.cells (bQ x).toArray 317);change ak _ _ _ (bQ x)at J;generalize w.alloc (.cells (bQ x).toArray 317)=w0 at*;generalize w.heap.size=gq at J|-;have I:=J.range;go_wp2_with(refine aw 317 (.tmp 1) rfl rfl gq 0 rfl (bQ x) _ I underlying317 rfl (JJ x hm hu) ?_)
 refine(uY x _ hm hu).mono ?_;rintro e o ⟨rfl,j⟩;have k1:=J.ext j;have c1:=R.trans (j.mono R.size);cases hmy:Ck.aV x with
 |false=>have U:=ja (show Na x=-1 by unfold Na;rw[hmy];rfl);clear hmy I;go_wp2;go_ret;exact⟨by rw[U.a];rfl,c1⟩
 |true=>have U:=ja (show Na x=x.s%2 by unfold Na;rw[hmy];rfl);have R:=(Ck.eR hmy).1;have x0:=k1.cell 0;unfold bQ at x0;simp only[List.getElem?_cons_zero]at x0;have q1:0<=x.s:=(by omega);have q2:x.s<=281474976710655:=(by omega);clear hmy I R;go_wp2;go_ret;exact⟨by rw[U.a];rfl,c1⟩
theorem JV:mP prog 3 38=true:=by kernel_rfl
theorem Ku:mP prog 3 3=true:=by kernel_rfl
theorem uk:prog.cellsOf 38=2:=by kernel_rfl
theorem wB:prog.cellsOf 3=1:=by kernel_rfl
theorem Hq (ps:List (Int×Nat)) (hl:ps.length=4) (k:Nat) (hk:k<4) (z:Int) (hz:z=k) (W:World):
 (Instr.index 106 (.agg (aZ ps).toArray) (i6 z)).run prog W=.ok (.agg #[i6 (ps[k]'(by omega)).1,.int .u32 ((ps[k]'(by omega)).2:Int)]) W:=by
 obtain⟨i,hi⟩:∃i,prog.info? 38=some i:=Option.isSome_iff_exists.1 kj;have:=tp 3 underlying106 JV hi (aZ ps) k hk (by rw[uk,cY];omega) z hz W;rw[this,uk];have e: ((aZ ps).drop (k*2)).take 2=[i6 (ps[k]'om).1,.int .u32 ((ps[k]'om).2:Int)]:=by have h:=dL ps k om;have hlen:=cY ps;rw[List.drop_eq_getElem_cons om,List.drop_eq_getElem_cons om,List.take_succ_cons,List.take_succ_cons,List.take_zero];rw[List.getElem?_eq_getElem om,List.getElem?_eq_getElem om]at h;rw[Option.some.inj h.1,Option.some.inj h.2]
 rw[e];unfold Ef;rw[underlying38]
theorem Hd (us:List Int) (hl:us.length=8) (k:Nat) (hk:k<8) (z:Int) (hz:z=k) (W:World):
 (Instr.index 107 (.agg (fE us).toArray) (i6 z)).run prog W=.ok (i6 (us[k]'(by omega))) W:=by
 obtain⟨i,hi⟩:∃i,prog.info? 3=some i:=Option.isSome_iff_exists.1 kj;have:=tp 3 underlying107 Ku hi (fE us) k hk (by rw[wB,iB];omega) z hz W;rw[this,wB];have e: ((fE us).drop (k*1)).take 1=[i6 (us[k]'om)]:=by have hlen:=iB us;rw[Nat.mul_one,List.drop_eq_getElem_cons om,List.take_succ_cons,List.take_zero];unfold fE;rw[List.getElem_map]
 rw[e];unfold Ef;rw[underlying3];rfl
def cH (x:Ck.Ck):List (Int×Nat):=[(4,1667985524),(6,x.s.toNat),(6,x.n.toNat),(4,x.a.toNat)]
def uN (us:List Int):List (Int×Nat):=us.map λu=>(2,u.toNat)
theorem EV (x:Ck.Ck) (hm:x.mp.length=4) (hu:x.us.length=8):Ck.Hj.zip (Ck.Jk x)=cH x++(pN x.mp++uN x.us):=by
 have I: (Ck.uW 8).zip (Ck.uV x.us)=uN x.us:=by
  have key:∀l:List Int,(Ck.uW l.length).zip (Ck.uV l)=uN l:=by
   intro l;induction l with
   |nil=>rfl
   |cons u l ih=>unfold Ck.uW Ck.uV uN at ih|-;rw[List.length_cons,List.replicate_succ,List.map_cons,List.zip_cons_cons,List.map_cons,ih]
  rw[<-hu];exact key x.us
 unfold Ck.Hj Ck.Jk;rw[Nd.eK _ _ _ _ rfl,Nd.eK _ _ _ _ (by rw[Nd.jK,Nd.jy,hm]),I];unfold pN;rw[hm];rfl
theorem vY (x:Ck.Ck):aZ x.mp=((bQ x).drop 3).take (aZ x.mp).length:=by unfold bQ;rw[List.drop_succ_cons,List.drop_succ_cons,List.drop_succ_cons,List.drop_zero,List.take_left]
theorem sL (x:Ck.Ck) (hm:x.mp.length=4):fE x.us=((bQ x).drop 11).take (fE x.us).length:=by unfold bQ;rw[List.drop_succ_cons,List.drop_succ_cons,List.drop_succ_cons,List.drop_left' (by rw[cY,hm]),List.take_length]
theorem Ik (us:List Int) (k:Nat) (h:k<us.length):uN (us.take (k+1))=uN (us.take k)++[(2,us[k].toNat)]:=by unfold uN;rw[List.take_succ_eq_append_getElem h,List.map_append];rfl
theorem I8 (ps:List (Int×Nat)) (k:Nat) (h:k<ps.length):pN (ps.take (k+1))=pN (ps.take k)++[(4,ps[k].1.toNat),(4,ps[k].2)]:=by rw[List.take_succ_eq_append_getElem h,y_];congr 1
theorem tQ (x:Ck.Ck) (w:World) (hg:Ck.Good x) (hmy:Ck.aV x=true) (hH:a7 w):
 Calls prog 205 #[C1 x] w (Made (Ck.NA x) w):=by
 have HM:=ja hg.1;have HU:=ja hg.2.1;have HS:=ja hg.2.2;have HC:=ja (Ck.Ks x hmy hg);have HL:=ja (Ck.AK x hg);have HE:=ja (show Ck.NA x=Crc.bR (Pk.bO (cH x++(pN x.mp++uN x.us))) by rw[<-EV x hg.1 hg.2.1];rfl);rw[EV x hg.1 hg.2.1]at HC HL;obtain⟨p1,p2,p3⟩:=Ck.eR hmy;have B0:=ja p2;have B1:=ja p3;obtain⟨sn,A6⟩:=Int.eq_ofNat_of_zero_le (show 0<=x.s by omega);obtain⟨nn,A7⟩:=Int.eq_ofNat_of_zero_le (show 0<=x.n by omega);obtain⟨an,A8⟩:=Int.eq_ofNat_of_zero_le (show 0<=x.a by omega);have B2:=ja (show bg (cH x)=[i6 4,.int .u64 1667985524,i6 6,.int .u64 (sn:Int),i6 6,.int .u64 (nn:Int),i6 4,.int .u64 (an:Int)] by unfold bg cH;rw[A6,A7,A8];rfl);have l1:sn<=281474976710655:=by omega
 have l2:nn<=281474976710655:=by omega
 have l3:an<=2147483647:=by omega
 have B3:=ja hmy;clear hg hmy p1 p2 p3;unfold C1;go_enter func205,ntmps205;go_upto_region 1 with(fail)
 have hk:=ak.new w 317 (bQ x).toArray;have hb:=(Below.refl w.heap.size w).alloc lh (.cells (bQ x).toArray 317);change ak _ _ _ (bQ x)at hk;generalize w.alloc (.cells (bQ x).toArray 317)=w0 at*;generalize w.heap.size=gq at hk|-;have Ao:=hk.range;go_wp2_with(refine aw 317 (.tmp 1) rfl rfl gq 0 rfl (bQ x) _ Ao underlying317 rfl (JJ x HM.a HU.a) ?_)
 refine(uY x _ HM.a HU.a).mono ?_;rintro e w1 ⟨rfl,b1⟩;rw[B3.a];have k1:=hk.ext b1;have c1:=hb.trans (b1.mono hb.size);have x0:=k1.cell 0;have x1:=k1.cell 1;have x2:=k1.cell 2;unfold bQ at x0 x1 x2;simp only[List.getElem?_cons_zero,List.getElem?_cons_succ]at x0 x1 x2;rw[A6]at x0;rw[A7]at x1;rw[A8]at x2;clear Ao hk b1 hb A6 A7 A8;go_upto_region 4 with(fail)
 have J:=(ak.new w1 200 #[i6 4,.int .u64 1667985524,i6 6,.int .u64 (sn:Int),i6 6,.int .u64 (nn:Int),i6 4,.int .u64 (an:Int)]).own (base:=w1.heap.size) lh 4 4 2 rfl lh (by simp[maxLen]);rw[List.take_of_length_le sj]at J;have k2:=k1.alloc (.cells #[i6 4,.int .u64 1667985524,i6 6,.int .u64 (sn:Int),i6 6,.int .u64 (nn:Int),i6 4,.int .u64 (an:Int)] 200);have b2:=(Below.refl w1.heap.size w1).alloc lh (.cells #[i6 4,.int .u64 1667985524,i6 6,.int .u64 (sn:Int),i6 6,.int .u64 (nn:Int),i6 4,.int .u64 (an:Int)] 200);rw[show(#[i6 4,.int .u64 1667985524,i6 6,.int .u64 (sn:Int),i6 6,.int .u64 (nn:Int),i6 4,.int .u64 (an:Int)]:Array Value).toList=bg (cH x)from B2.a.symm]at J;generalize w1.alloc (.cells #[i6 4,.int .u64 1667985524,i6 6,.int .u64 (sn:Int),i6 6,.int .u64 (nn:Int),i6 4,.int .u64 (an:Int)] 200)=w2 at*;have r2:=k2.bF 3 _ (vY x);generalize B4:Value.slice (some ⟨w1.heap.size,0,none⟩) 4 4=v4 at J|-;clear B4 x0 x1 x2;have BB:=k1.lt;have Aq:=ja (show(prog.info? 106).map (·.size)=some (aZ x.mp).length by rw[cY,HM.a];kernel_rfl);have Ar:=ja (show(prog.info? 107).map (·.size)=some (fE x.us).length by rw[iB,HU.a];kernel_rfl);go_wp2_with(refine aw 106 (.tmp 28) rfl rfl gq 3 rfl (aZ x.mp) _ r2 underlying106 rfl Aq.a ?_)
 clear r2 k2;go_loopw [4,30] (λy i wr=>∃k:Nat,k<=4/\i=i6 k/\wr.ownsRow w1.heap.size 200 2 y (4+2*k) (bg (cH x++pN (x.mp.take k)))/\Bw w1 wr) (λ_ i _=>4-(intOf i).toNat)
 case atStart=>exact⟨0,by omega,rfl,by rw[show pN (x.mp.take 0)=[]from rfl,List.append_nil];exact J,b2⟩
 case round=>
  obtain⟨k,hk,rfl,R,o⟩:=hrel;clear J b2;by_cases A3:k<4
  ·have A0:k<x.mp.length:=(by rw[HM.a];exact A3);have A1:=ja (λW=>Hq x.mp HM.a k A3 (k:Int) rfl W);have A2:=ja (show bg (cH x++pN (x.mp.take (k+1)))=bg (cH x++pN (x.mp.take k))++bg [(4,x.mp[k].1.toNat),(4,x.mp[k].2)] by rw[I8 x.mp k A0,<-List.append_assoc,eZ]);have j:=List.all_eq_true.1 B0.a _ (List.getElem_mem A0);have B5:=HS.a _ (List.getElem_mem A0);unfold Ck.BM at j;rw[decide_eq_true_iff]at j;generalize x.mp[k]=p at*;obtain⟨aa,s⟩:=p;simp only at A2 j B5 A1;obtain⟨aa,rfl⟩:=Int.eq_ofNat_of_zero_le (show 0<=aa by omega);rw[Int.toNat_natCast]at A2;have B6:aa<=2147483647:=(by omega);clear j;have A9:=A1.a;(go_wp2_with(at_builtin;refine bT ?_));clear A9 A1;have As: (wr.alloc (.cells #[i6 (aa:Int),.int .u32 (s:Int)] 38)).heap.size=wr.heap.size+1:=(by simp);have AI:=ak.new (wr.alloc (.cells #[i6 (aa:Int),.int .u32 (s:Int)] 38)) 200 #[i6 4,.int .u64 (aa:Int),i6 4,.int .u64 (s:Int)];rw[As]at AI;have AR:=(R.alloc (.cells #[i6 (aa:Int),.int .u32 (s:Int)] 38)).alloc (.cells #[i6 4,.int .u64 (aa:Int),i6 4,.int .u64 (s:Int)] 200);have d1:=o.alloc o.size (.cells #[i6 (aa:Int),.int .u32 (s:Int)] 38);have d2:=d1.alloc d1.size (.cells #[i6 4,.int .u64 (aa:Int),i6 4,.int .u64 (s:Int)] 200);obtain⟨ua,wa,A4,Aa,A5,_⟩:=aE (P:=prog) (ty:=193) underlying193 iS rfl dc AR (AI.fe 0 2 2 2 sj om (by simp[maxLen])) (by simp[Value.oneCell']) (by rw[aq];omega) om d2.size;refine aN (v:=u4) (u:=.slice (some ⟨wr.heap.size+1,0,none⟩) 2 2) rfl (.tmp 33) (.tmp 42) 193 rfl rfl rfl A4 ?_;have d3:=d2.grown A5 d2.size (λg hg=>(AR.lt g hg).1);clear AI AR A4 A5 As d1 d2 R o;go_wp2;go_roundw;case rel=>exact⟨k+1,by omega,by go_num,by rw[A2.a,show 4+2*(k+1)=4+2*k+2 by omega];exact Aa,d3⟩
   case measure=>exact ms
  ·obtain rfl:k=4:=(by omega);rw[List.take_of_length_le (by rw[HM.a];omega)]at R;have k3:=k1.ext o;have r3:=k3.bF 11 _ (sL x HM.a);obtain⟨w3,Au⟩:∃w3,w3=wr:=⟨_,rfl⟩;rw[<-Au]at R o k3 r3|-;clear Au;(go_wp2_with(refine aw 107 (.tmp 45) rfl rfl gq 11 rfl (fE x.us) _ r3 underlying107 rfl Ar.a ?_));clear r3 k3;(go_loopw [4,47] (λy i wr=>∃k:Nat,k<=8/\i=i6 k/\wr.ownsRow w1.heap.size 200 2 y (12+k) (bg (cH x++(pN x.mp++uN (x.us.take k))))/\Bw w1 wr) (λ_ i _=>8-(intOf i).toNat));case atStart=>exact⟨0,by omega,rfl,by rw[show uN (x.us.take 0)=[]from rfl,List.append_nil];exact R,o⟩
   case round=>
    obtain⟨k,hk,rfl,I,U⟩:=hrel;clear R o;by_cases A3:k<8
    ·have A0:k<x.us.length:=(by rw[HU.a];exact A3);have A1:=ja (λW=>Hd x.us HU.a k A3 (k:Int) rfl W);have A2:=ja (show bg (cH x++(pN x.mp++uN (x.us.take (k+1))))=bg (cH x++(pN x.mp++uN (x.us.take k)))++bg [(2,x.us[k].toNat)] by rw[Ik x.us k A0,<-List.append_assoc,<-List.append_assoc,eZ,List.append_assoc]);have j:=List.all_eq_true.1 B1.a _ (List.getElem_mem A0);unfold Ck.vB at j;rw[decide_eq_true_iff]at j;generalize x.us[k]=uu at*;obtain⟨un,rfl⟩:=Int.eq_ofNat_of_zero_le j.1;rw[Int.toNat_natCast]at A2;have B6:un<=256:=(by omega);clear j;have A9:=A1.a;(go_wp2_with(at_builtin;refine bT ?_));clear A9 A1;refine aH rfl _ _ rfl rfl rfl rfl underlying193 iS rfl dc I rfl (by simp[Value.oneCell']) (by rw[aq];omega) om U.size ?_;intro v' w' Ab Av;have B7:=U.grown Av U.size (λg hg=>(I.lt g hg).1);clear I Av U;go_wp2;go_roundw;case rel=>exact⟨k+1,by omega,by go_num,by rw[A2.a];exact Ab,B7⟩
     case measure=>exact ms
    ·obtain rfl:k=8:=(by omega);rw[List.take_of_length_le (by rw[HU.a];omega)]at I;have Ad: (cH x++(pN x.mp++uN x.us)).length=20:=(by rw[List.length_append,List.length_append,sQ,HM.a];unfold uN;rw[List.length_map,HU.a];rfl);have Aw:ee wr wr.heap.size u4 (cH x++(pN x.mp++uN x.us)):=ee.aG (base:=w1.heap.size) (e:=200) (by rw[Ad];exact I);have Ax:=ja Aw;have B8:=ja Ad;have HZ:=ja (pC HC.a);have hp:=Pk.iM HC.a;have hk:Pk.packed (cH x++(pN x.mp++uN x.us))=Pk.bO (cH x++(pN x.mp++uN x.us)):=(by unfold Pk.packed;rw[if_pos hp]);have Ae:=ja (And.intro hp hk);have c2:=c1.trans (U.mono c1.size);clear hp hk Aw Ad I;generalize cH x++(pN x.mp++uN x.us)=L at*;(go_wp2_with fail);refine(ic _ _ _ L Ax.a lh (by rw[B8.a];omega) HZ.a).mono ?_;rintro e w5 ⟨u,rfl,A',b5⟩;rw[Ae.a.1];rw[Ae.a.2]at A';have hs:Bs w5 w5.heap.size u (Pk.bO L):=Bs.aG A';have B9:=ja hs;have c3:=c2.trans (b5.mono c2.size);clear A' hs Ae b5 c2 U Ax;(go_wp2_with fail);refine(lJ _ _ _ _ (hH.ext c3) B9.a lh (by rw[HL.a];omega)).mono ?_;rintro e w6 ⟨u2,rfl,Ah,b6⟩;have B':ju w.heap.size w6 u2 (Crc.bR (Pk.bO L)):=ju.aG (by rw[Crc.bH _ (by rw[HL.a];omega)];exact Ah) c3.size;rw[<-HE.a]at B';go_wp2;go_ret2;exact⟨_,rfl,B',c3.trans (b6.mono c3.size)⟩
end CkW
end Go.Proofs.YtdhgejiacehpbaaGreatDoor
