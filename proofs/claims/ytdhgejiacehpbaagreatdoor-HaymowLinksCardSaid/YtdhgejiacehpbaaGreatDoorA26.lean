import Derived.Test.YtdhgejiacehpbaaGreatDoorA25
import Derived.Defers
set_option maxRecDepth 100000
set_option maxHeartbeats 16000000
set_option linter.all false
namespace Go.Proofs.YtdhgejiacehpbaaGreatDoor
open Go.Proofs.Tryz
namespace Co
open Go.RowKit
section
variable {w w' wS:World} {c c2:C} {fs fs2:List Fi}
def Jq (wS:World) (c c2:C) (fs:List Fi) (e:Ending) (w':World):Prop:=e=.returned (.tuple #[])/\bD w' {c with tick:=c2.tick,age:=c2.age+1} fs/\af (· =c.g) wS w'
theorem FJ (HS:bD wS c fs) (TS:af (· =c.g) wS w) (H2:bD w c2 fs2) (hg:c2.g=c.g) (hk:c2.k=c.k) {b0 b1 b2 b3:Nat} (hb0:wS.heap.size<=b0) (U:NS w c b0 b1 b2 b3) (hone:∀v∈c.now,v.oneCell'=true) (ha0:0<=c2.age) (ha1:c2.age<=1000000):
 Calls prog 121 #[pt b0 0,pt b1 0,pt b2 0,pt b3 0] w (Jq wS c c2 fs):=by
 have J:=HS.len;have u0:w.cell? (ae b0 0)=some (.bool true):=U.k0.cell 0;have v0:=U.k0.frozen 0;have u1:w.cell? (ae b1 0)=some (pt c.g 0):=U.k1.cell 0;have u2:w.cell? (ae b2 0)=some (i6 c.k.aT):=U.k2.cell 0;have g1:w.cell? (ae c.g 195)=some (i6 c.k.aT):=by rw[<-hg,<-hk];exact(H2.cell 195).trans (jA H2.len)
 have ec: (c.k.aT != c.k.aT)=false:=bne_self_eq_false _;have g2:w.cell? (ae c.g 194)=some (i6 c2.age):=by rw[<-hg];exact(H2.cell 194).trans (gF H2.len)
 have KC:ak w c.g 110 c2.cells:=hg▸H2.core;have A1:b0≠b1:=λe=>by have a:=U.k0;have b:=U.k1;rw[e]at a;unfold ak at a b;rw[a]at b;simp at b
 have j:b0≠c.g:=λe=>by have a:=U.k0;have b:=KC;rw[e]at a;unfold ak at a b;rw[a]at b;simp at b
 have A2:b1≠c.g:=λe=>by have a:=U.k1;have b:=KC;rw[e]at a;unfold ak at a b;rw[a]at b;simp at b
 have A3:b0≠b3:=λe=>by have a:=U.k0;have b:=U.k3;rw[e]at a;unfold ak at a b;rw[a]at b;simp at b
 have A4:=ja HS;have A5:=ja TS;have I:=ja H2;have HU:=ja U;have HE:=ja hk;have HN:=ja hone;have o:=ja KC;have A6:=ja hb0;clear H2 U hk hone KC HS TS hb0;go_enter func121,ntmps121;go_wp2_with fail
 go_quiet (fail);have hx: ((w.drewN nq).setCell (ae b0 0) (.bool false)).rangeAt b3 0 c.now:=((HU.a.k3.drewN nq).cf (p:=ae b0 0) (λe=>A3 e.symm) _).range;have A':=((o.a.drewN nq).cf (p:=ae b0 0) (λe=>j e.symm) (.bool false)).there 6 c.now.length (by rw[cB J,eu I.a.len];decide);go_upto_region 3 with(first|refine aw 103 (.tmp 3) rfl rfl b3 0 rfl c.now _ hx underlying103 rfl (pE c J) ?_|(with_reducible refine cM rfl 103 (.tmp 17) (.tmp 15) rfl c.g 6 c.now rfl rfl A' (pE c J) HN.a ?_))
 have R:=((o.a.drewN nq).cf (p:=ae b0 0) (λe=>j e.symm) (.bool false)).setCells c.now 6 (by rw[cB J,eu I.a.len];decide);rw[Hb I.a.len c J,HE.a]at R;have A0:C.eI {c with tick:=c2.tick,age:=c2.age}:=⟨J.aF,J.av,J.maps,J.used,I.a.len.dH,I.a.len.dG⟩;have ek:c2.tail=C.tail {c with tick:=c2.tick,age:=c2.age}:=by unfold C.tail;rw[HE.a]
 rw[ek]at R;replace R:ak (((w.drewN nq).setCell (ae b0 0) (.bool false)).setCells c.g 6 c.now) c.g 110 (C.cells {c with tick:=c2.tick,age:=c2.age}):=R;have T1:af (λb=>b=c.g\/b=b0) w (((w.drewN nq).setCell (ae b0 0) (.bool false)).setCells c.g 6 c.now):=((af.aj (below_drewN bh nq)).trans ((af.setCell (w.drewN nq) b0 0 (.bool false)).mono (Y:=λb=>b=c.g\/b=b0) (λ_ e=>.inr e)) (λ_ h=>.inl h)).trans ((af.setCells _ c.g 6 c.now).mono (Y:=λb=>b=c.g\/b=b0) (λ_ e=>.inl e)) (λ_ h=>.inl h);have U1:=T1.blk HU.a.k1 (λe=>e.elim A2 (λe=>A1 e.symm));generalize((w.drewN nq).setCell (ae b0 0) (.bool false)).setCells c.g 6 c.now=z at*;have x1:z.cell? (ae b1 0)=some (pt c.g 0):=U1.cell 0;have x2:z.cell? (ae c.g 194)=some (i6 c2.age):=(R.cell 194).trans (gF A0);have x3:=R.frozen 194;have A7:=ja R;have HT:=ja T1;clear R T1 U1 hx A' g1 g2 u0 u1 u2 v0;go_wp2;go_end0;have K2:=A7.a.aC 194 (i6 (c2.age+1));rw[te A0]at K2;have TT:=(A5.a.trans HT.a (λi hi=>hi.elim .inl (λe=>.inr (e▸A6.a)))).trans (af.setCell z c.g 194 (i6 (c2.age+1))) (λ_ h=>.inl h);exact⟨rfl,A4.a.pI TT K2 ⟨J.aF,J.av,J.maps,J.used,I.a.len.dH,I.a.len.dG⟩ rfl rfl rfl rfl rfl rfl rfl rfl rfl rfl,TT⟩
end
end Co
namespace Co
open Go.RowKit
open Et (E)
attribute [local go_sem] Oper.semAt_some
theorem KJ:∀args x,(callFunc 66 args).run prog x=.ok (.enter 66 args) x:=λargs x=>by have h:=func66;go_simp
theorem Ho:∀args x,(callFunc 121 args).run prog x=.ok (.enter 121 args) x:=λargs x=>by have h:=func121;go_simp
theorem Kr (q q7:Nat) (u:FrameMode) (w:World) (hq:w.cell? (ae q 0)=some (i6 0)):
 CallsD prog 66 #[pt q 0,pt q7 0] u w λe u' w'=>u'=u/\(e=.returned (.tuple #[])/\w'=w):=by
 go_enter_d func66,ntmps66;go_wp2;go_end0;exact⟨rfl,rfl⟩
theorem Dq (q q7:Nat) (z:Int) (hz:z≠0) (u:FrameMode) (w:World) (caps:Array Value) (P:World->Prop) (hq:w.cell? (ae q 0)=some (i6 z))
 (h7:w.cell? (ae q7 0)=some (.func (.func 121) #[] caps)) (hU:Calls prog 121 caps w λe w'=>e=.returned (.tuple #[])/\P w'):
 CallsD prog 66 #[pt q 0,pt q7 0] u w λe u' w'=>u'=u/\(e=.returned (.tuple #[])/\P w'):=by
 have R: (z != 0)=true:=bne_iff_ne.2 hz;have U:=Ho;have j:=ja hU;clear hU;go_enter_d func66,ntmps66;go_wp2_with fail
 refine j.a.mono ?_;rintro e w' ⟨rfl,I⟩;have J:=ja I;clear I;go_wp2;go_end0;first|exact⟨rfl,J.a⟩|exact⟨rfl,rfl,J.a⟩
section
variable {w w' w'':World} {c c' c'':C} {fs fs':List Fi} {f:Fi} {L L':List E} {g t:Nat} {o:Option (Int×Int)}
structure kH (c c':C):Prop where
 k:c'.k=c.k
 g:c'.g=c.g
 aF:c'.aF=c.aF
 b_:c'.b_=c.b_
 cL:c'.cL=c.cL
 Mm:nj c.av c'.av
theorem kH.trans (h:kH c c') (k:kH c' c''):kH c c'':=⟨k.k.trans h.k,k.g.trans h.g,k.aF.trans h.aF,k.b_.trans h.b_,k.cL.trans h.cL,h.Mm.trans k.Mm⟩
structure Fit (c:C) (fs:List Fi):Prop where
 gM:fs.length<=2
 vs:∀f∈fs,f.vs.length<=3
 cL:c.cL=[]
 b_:c.b_.length<=100/\∀y∈c.b_,0<=y.1/\y.1<10
 one: (∀v∈c.aF,v.oneCell'=true)/\∀v∈c.av,v.oneCell'=true
theorem Fit.l_ (h:Fit c fs) (k:kH c c'):Fit c' fs:=⟨h.gM,h.vs,k.cL.trans h.cL,by rw[k.b_];exact h.b_,by rw[k.aF];exact h.one.1,k.Mm h.one.2⟩
theorem Lays.l_ (h:Lays c) (k:c'.k=c.k):Lays c':=⟨by rw[k];exact h.g1,by rw[k];exact h.g2,by rw[k];exact h.g3,by rw[k];exact h.g4,by rw[k];exact h.Nt,by rw[k];exact h.NB,by rw[k];exact h.chain,by rw[k];exact h.tB,by rw[k];exact h.aU⟩
theorem dw.move (h:dw w c fs L g t o) (hC:bD w' c' fs') (hS:Step w c w' c') (hg:c'.g=c.g) (hk:c'.k=c.k) (hd:∃f,fs'[0]? =some f/\mB f L'):dw w' c' fs' L' g t o:=⟨hC,by rw[hg];exact hS.turn.blk h.yU (λe=>e h.og),hS.turn.blk h.mN (λe=>e h.ot),(hS.own g h.yU.lt).trans h.og,(hS.own t h.mN.lt).trans h.ot,h.iN.l_ hk,hd⟩
theorem dw.put (h:dw w c fs L g t o) {q ty:Nat} {l:List Value} (hk:ak w q ty l) (hl:Small l) (h0:c.own q=0) (h1:260≠ty) (h2:67≠ty) (h3:139≠ty) (T:af (· =q) w w'):dw w' c fs L g t o:=⟨h.du.AM T h0 hk hl h1 (by rw[h.iN.tB];decide),T.blk h.yU (aR h.yU hk h2),T.blk h.mN (aR h.mN hk h3),h.og,h.ot,h.iN,h.dir⟩
theorem sB (z:Int):Small [i6 z]:=Small.of (Nat.le_of_ble_eq_true rfl) rfl
theorem Step.bM (hS:Step w c w' c') {b:Nat} (hb:b<w.heap.size) (h0:c.own b=0):w'.heap[b]? =w.heap[b]? /\c'.own b=0:=⟨hS.turn.block b hb (λe=>e h0),(hS.own b hb).trans h0⟩
def Jh (x:World) (c1:C) (fs:List Fi) (L:List E) (g t:Nat) (o:Option (Int×Int)) (R:C->C->List Fi->List E->Prop) (Z:Int->Prop) (e:Ending) (x':World):Prop:=∃z:Int,e=.returned (i6 z)/\Z z/\(z=0->∃c2 fs2 L2,dw x' c2 fs2 L2 g t o/\Step x c1 x' c2/\Fit c2 fs2/\c2.age=c1.age/\c2.k=c1.k/\c2.g=c1.g/\R c1 c2 fs2 L2)/\(z≠0->Seen x c1 fs x')
def pY (w:World) (c:C) (fs:List Fi) (L:List E) (g t:Nat) (o:Option (Int×Int)) (R:C->C->List Fi->List E->Prop) (z:Int) (w':World):Prop:=(z=0->∃c1 c2 fs2 L2,kH c c1/\dw w' c2 fs2 L2 g t o/\Step w c w' c2/\Fit c2 fs2/\c2.age=c.age+1/\c2.k=c.k/\c2.g=c.g/\R c1 c2 fs2 L2)/\(z≠0->∃c2,kH c c2/\dw w' c2 fs L g t o/\Step w c w' c2/\c2.age=c.age+2)
structure At (w x:World) (c c1:C) (fs:List Fi) (L:List E) (g t:Nat) (o:Option (Int×Int)):Prop where
 mT:dw x c1 fs L g t o
 l_:kH c c1
 age:c1.age=c.age+1
 bM:∀b,b<w.heap.size->c.own b=0->x.heap[b]? =w.heap[b]? /\c1.own b=0
 size:w.heap.size<=x.heap.size
theorem iR (h:dw w c fs L g t o) (hF:Fit c fs) (ha:0<=c.age) (ha1:c.age<=900000) (r:Int) (hr:r<=10) (fn:Nat) (caps:Array Value)
 (hcf:∀args x,(callFunc fn args).run prog x=.ok (.enter fn args) x) (R:C->C->List Fi->List E->Prop) (Z:Int->Prop)
 (hdo:∀x c1,At w x c c1 fs L g t o->Calls prog fn caps x (Jh x c1 fs L g t o R Z)):
 Calls prog 25 #[pt g 0,i6 r,.func (.func fn) #[] caps] w λe w'=>∃z,e=.returned (i6 z)/\Z z/\pY w c fs L g t o R z w':=by
 have H:=ja h;have Ah:=ja hF;have E1:=ja hdo;clear h hF hdo;have G1:∀(fn:Fn) (first cap:Array Value) (w:World),(Instr.makeFunc fn first cap).run prog w=.ok (.func fn first cap) w:=λ_ _ _ _=>rfl;go_enter_defers func25,ntmps25;go_upto_region 1 with fail
 generalize hW:w.alloc (.cells _ 28)=w0;have k4:ak w0 w.heap.size 28 [i6 0]:=by rw[<-hW];exact ak.new w _ _
 have b0:Below w.heap.size w w0:=by rw[<-hW];exact bh.alloc lh _
 clear hW;obtain⟨q,hq⟩:=ex w.heap.size;rw[hq]at k4|-;have HO:=ja (show c.own q=0/\w.heap.size=q from⟨H.a.du.hi q om,hq⟩);have K:=ja k4;have B:=ja b0;have H0:=ja (H.a.below b0);clear k4 b0 hq;have x0:=H0.a.x0;go_wp2_with fail
 refine(jJ H0.a.du).mono ?_;rintro e w1 ⟨rfl,tk,B2,Ao⟩;have A8:Step w0 c w1 {c with tick:=tk}:=H0.a.du.step Ao rfl;have H1:=ja (H0.a.move B2 A8 rfl rfl H0.a.dir);have S1:=ja A8;have T1:=ja Ao;have K1:=ja (show ak w1 q _ _ from(A8.bM K.a.lt HO.a.1).1.trans K.a);have x1:w1.cell? (ae g 0)=some (pt c.g 0):=H1.a.x0;clear x0 B2 A8 Ao;obtain⟨J,A5⟩:∃J:C,{c with tick:=tk}=J:=⟨_,rfl⟩;rw[A5]at H1 S1;have Aq:J.g=c.g:=by rw[<-A5]
 have B3:J.age=c.age:=by rw[<-A5]
 have U:=ja (show kH c J by rw[<-A5];exact⟨rfl,rfl,rfl,rfl,rfl,nj.refl _⟩);rw[<-Aq]at x1;have E4:=ja Aq;have B4:=ja B3;have a0:0<=J.age:=by omega
 have a1:J.age<=900000:=by omega
 clear A5 Aq B3 ha ha1;go_wp2_with fail
 refine(FD H1.a.du a0 om (Ah.a.l_ U.a).one.1 (Ah.a.l_ U.a).one.2).mono ?_;rintro e w2 ⟨cs,b0,b1,b2,b3,rfl,B5,A9,B6,B7,⟨B8,B9⟩,Ar⟩;have A1:kH J cs:=by rw[Ar];exact⟨rfl,rfl,rfl,rfl,rfl,nj.refl _⟩
 have H2:=ja (H1.a.move B5 A9 A1.g A1.k H1.a.dir);have S2:=ja A9;have T2:=ja B8;have U2:=ja B6;have A6:=jb B7 B9;have KN:=ja A1;have E5:=ja Ar;have K2:=ja (show ak w2 q _ _ from(A9.bM K1.a.lt ((S1.a.own q K.a.lt).trans HO.a.1)).1.trans K1.a);clear x1 B5 A9 B6 B7 B8 B9 Ar A1;go_upto_region 3 with fail
 obtain⟨q7,A3⟩:=ex w2.heap.size;obtain⟨w3,e3,k3,b3,s3⟩:=ax w2 1 #[.func (.func 121) #[] #[pt b0 0,pt b1 0,pt b2 0,pt b3 0]] q7 A3;rw[e3,A3];have j:Below w2.heap.size w2 w3:=A3▸b3;have BB:∀b,b<w.heap.size->c.own b=0->w3.heap[b]? =w.heap[b]? /\cs.own b=0:=λb hb h0=>by have l0:b<w0.heap.size:=Nat.lt_of_lt_of_le hb B.a.size;have r1:=S1.a.bM l0 h0;have l1:b<w1.heap.size:=Nat.lt_of_lt_of_le l0 S1.a.turn.size;have r2:=S2.a.bM l1 r1.2;have l2:b<w2.heap.size:=Nat.lt_of_lt_of_le l1 S2.a.turn.size;exact⟨(j.block b l2).trans (r2.1.trans (r1.1.trans (B.a.block b hb))),r2.2⟩
 have As:At w w3 c cs fs L g t o:=⟨H2.a.below j,U.a.trans KN.a,by have h:=E5.a;rw[h];show J.age+1=_;rw[B4.a],BB,Nat.le_trans (Nat.le_trans (Nat.le_trans B.a.size S1.a.turn.size) S2.a.turn.size) j.size⟩;have HD:=ja (E1.a w3 cs As);have H3:=ja (H2.a.below j);have K3:=jc (K2.a.ext j) k3 j;have G2:=KJ;have A7:=ja As;have Ab:=(((Step.below B.a c).trans S1.a).trans S2.a).trans (Step.below j cs);have E6:=ja Ab;clear e3 k3 b3 s3 j BB As Ab;go_wp2_with fail
 refine HD.a.mono ?_;rintro e w4 ⟨z,rfl,BO,Au,Av⟩;have BQ:=ja BO;clear BO;have oq:cs.own q=0:=(S2.a.own q K1.a.lt).trans ((S1.a.own q K.a.lt).trans HO.a.1);have Bg:cs.own q7=0:=H2.a.du.hi q7 (Nat.le_of_eq A3);have HQ:=jc oq Bg A3;clear oq Bg A3;by_cases hz:z=0
 ·subst hz;obtain⟨c2,E7,L2,F2,S4,A',Bt,Bu,By,hR⟩:=Au rfl;have kq:ak w4 q 28 [i6 0]:=(S4.bM K3.a.lt HQ.a).1.trans K3.a;have AI:=Lib.hid (⟨F2,S4,A',Bt,Bu,By,hR,kq⟩:_/\_/\_/\_/\_/\_/\_/\_);have x4:=F2.x0;have E8:=ja (gm F2.du F2.iN r hr A'.gM A'.cL A'.b_.2 A'.b_.1 A'.vs);clear F2 S4 A' Bt Bu By hR kq Au Av;(go_wp2_with fail);refine E8.a.mono ?_;rintro e w5 ⟨rfl,b5⟩;have k5:=AI.out.2.2.2.2.2.2.2.ext b5;have f5:=k5.frozen 0;have x5:=k5.cell 0;have K5:=jb k5 b5;clear k5 b5 x4;go_wp2;have k6:=K5.a.aC 0 (i6 0);obtain⟨w6,C4⟩:=ex (w5.setCell (ae q 0) (i6 0));rw[C4]at k6|-;refine leaves_cons (f:=66) (args:=#[pt q 0,pt q7 0]) sj (by simp[go_sem]) ?_;refine(Kr q q7 .returning _ (k6.cell 0)).mono ?_;rintro e u' AR ⟨rfl,rfl,rfl⟩;have y6:=k6.cell 0;simp[Leaves,settle,results,results25,go_sem,y6];have T6:af (· =q) w5 AR:=C4▸af.setCell w5 q 0 _;have I:=AI.out;have oq:c2.own q=0:=(I.2.1.own q K3.a.lt).trans HQ.a;have E9:=(I.1.below K5.b).put K5.a (sB 0) oq dc dc dc T6;have S5:=(E6.a.trans I.2.1).trans (Step.below K5.b c2);have EC:=HO.a.2;refine⟨BQ.a,λ_=>⟨cs,c2,E7,L2,A7.a.l_,E9,⟨S5.turn.trans T6 λb e=>.inr (by rw[e];omega),S5.own⟩,I.2.2.1,by rw[I.2.2.2.1,A7.a.age],by rw[I.2.2.2.2.1,A7.a.l_.k],by rw[I.2.2.2.2.2.1,A7.a.l_.g],I.2.2.2.2.2.2.1⟩,λe=>absurd rfl e⟩
 ·have G5: (z != 0)=true:=bne_iff_ne.2 hz;have EK:=Av hz;obtain⟨c4,⟨T4,Aw,CC⟩,Cd,Ax⟩:=EK;have Co:cs.g=c.g:=KN.a.g.trans E4.a;have A2:Step w3 cs w4 c4:=H3.a.du.step Ax (by rw[Aw]);have kq:ak w4 q 28 [i6 0]:=(A2.bM K3.a.lt HQ.a).1.trans K3.a;have k7:ak w4 q7 _ _:=(A2.bM K3.b.lt HQ.b).1.trans K3.b;have f5:=kq.frozen 0;have x5:=kq.cell 0;have AI:=Lib.hid (⟨Cd,Ax,A2,kq,k7,Aw,CC⟩:_/\_/\_/\_/\_/\_/\_);have G7:=ja Co;clear Cd Ax A2 kq k7 Aw CC Au Av Co;go_wp2;have I:=AI.out;have k5:=I.2.2.2.1.aC 0 (i6 z);have T5:af (· =q) w4 (w4.setCell (ae q 0) (i6 z)):=af.setCell w4 q 0 _;have A0:af (· =q) w1 (w1.setCell (ae q 0) (i6 z)):=af.setCell w1 q 0 _;have kS:=K1.a.aC 0 (i6 z);obtain⟨w5,D0⟩:=ex (w4.setCell (ae q 0) (i6 z));obtain⟨wS,Aa⟩:=ex (w1.setCell (ae q 0) (i6 z));rw[D0]at k5 T5|-;rw[Aa]at A0 kS;have EX:9<=c4.k.nQ.length:=(by have:c4.k=cs.k:=(by rw[I.2.2.2.2.2.1]);rw[this,KN.a.k,H1.a.iN.tB];decide);have o4:c4.own q=0:=(I.2.2.1.own q K3.a.lt).trans HQ.a;have F':=I.1.AM T5 o4 I.2.2.2.1 (sB 0) dc EX;have ot:J.own q=0:=(S1.a.own q K.a.lt).trans HO.a.1;have D3:=H1.a.put K1.a (sB 0) ot dc dc dc A0;have A4:af (· =J.g) w1 w4:=(T2.a.trans (af.aj (X:=(· =J.g)) K3.c) λ_ e=>.inl e).trans I.2.1 λb e=>.inl (by rw[e,KN.a.g]);have D5:af (· =J.g) wS w5:=⟨T5.os.trans (A4.os.trans A0.os.symm),T5.tape.trans (A4.tape.trans A0.tape.symm),T5.output.trans (A4.output.trans A0.output.symm),by rw[<-Aa,<-D0];simpa using A4.size,λk hk hn=>by
   by_cases B':k=q
   ·subst B';exact Eq.trans k5 (Eq.symm kS)
   ·have B0:k<w1.heap.size:=(by rw[<-Aa]at hk;simpa using hk);exact(T5.block k (Nat.lt_of_lt_of_le B0 A4.size) B').trans ((A4.block k B0 hn).trans (A0.block k B0 B').symm)⟩
  have F0:NS w5 J b0 b1 b2 b3:=(by have hb:∀{b ty:Nat} {l:List Value},ak w2 b ty l->cs.own b=0->ty≠28->ak w5 b ty l:=λ{b ty l} hk h0 F1=>(by have h3:=hk.ext K3.c;have h4:ak w4 b ty l:=(I.2.2.1.bM h3.lt h0).1.trans h3;exact T5.blk h4 (aR h4 I.2.2.2.1 F1));exact⟨hb U2.a.k0 A6.a.1 dc,hb U2.a.k1 A6.a.2.1 dc,hb U2.a.k2 A6.a.2.2.1 dc,hb U2.a.k3 A6.a.2.2.2 dc⟩);have F3:c4.k=J.k:=(by have:c4.k=cs.k:=(by rw[I.2.2.2.2.2.1]);rw[this,KN.a.k]);have F5:c4.g=J.g:=(by have:c4.g=cs.g:=(by rw[I.2.2.2.2.2.1]);rw[this,KN.a.g]);have F6:c4.age=c.age+1:=(by have:c4.age=cs.age:=(by rw[I.2.2.2.2.2.1]);rw[this,A7.a.age]);have Ad:=(Ah.a.l_ U.a).one;have G8:=B4.a;have Ae:=FJ D3.du D5 F' F5 F3 (b0:=b0) (b1:=b1) (b2:=b2) (b3:=b3) (by rw[<-Aa];simpa using A6.b) F0 (AG Ad.1 Ad.2) om om;have k7:ak w5 q7 _ _:=T5.blk I.2.2.2.2.1 (aR I.2.2.2.2.1 I.2.2.2.1 dc);have FZ:=je D3 D5 A0 F6 Ae;refine leaves_cons (f:=66) (args:=#[pt q 0,pt q7 0]) sj (by simp[go_sem]) ?_;refine(Dq q q7 z hz .returning _ _ (λw'=>Jq wS J c4 fs (.returned (.tuple #[])) w'/\w'.heap[q]? =w5.heap[q]?) (k5.cell 0) (k7.cell 0) (Ae.mono ?_)).mono ?_
  ·rintro e w' ⟨rfl,h1,h2⟩;have F7:¬q=J.g:=λe=>(by have h:=H1.a.du.o1;rw[<-e,ot]at h;cases h);exact⟨rfl,⟨rfl,h1,h2⟩,(h2.block q kS.lt F7).trans (Eq.trans kS (Eq.symm k5))⟩
  rintro e u' AR ⟨rfl,rfl,hP,F8⟩;have k6:ak AR q 28 _:=F8.trans k5;have y6:=k6.cell 0;simp[Leaves,settle,results,results25,go_sem,y6];obtain⟨_,hC,hT⟩:=hP;have Dv:Step wS J AR {J with tick:=c4.tick,age:=c4.age+1}:=⟨hT.mono λb e=>by rw[e,FZ.a.du.o1];decide,λ_ _=>rfl⟩;have B1:=(Step.below B.a c).trans S1.a;have EC:=HO.a.2;refine⟨BQ.a,λe=>absurd e hz,λ_=>⟨{J with tick:=c4.tick,age:=c4.age+1},⟨U.a.k,U.a.g,U.a.aF,U.a.b_,U.a.cL,U.a.Mm⟩,FZ.a.move hC Dv rfl rfl FZ.a.dir,⟨(B1.turn.trans FZ.c λb e=>.inr (by rw[e];omega)).trans Dv.turn λb e=>?_,λb hb=>B1.own b hb⟩,by show c4.age+1=_;rw[FZ.d];omega⟩⟩;by_cases hb:b<w.heap.size
  ·exact .inl (by rw[<-B1.own b hb];exact e)
  ·exact .inr om
theorem pY.behind {w0:World} {R:C->C->List Fi->List E->Prop} {z:Int} (hb:Bw w0 w) (h:pY w c fs L g t o R z w'):pY w0 c fs L g t o R z w':=
 ⟨λe=>by
  obtain⟨c1,c2,I,L2,J,U,j,h4⟩:=h.1 e;exact⟨c1,c2,I,L2,J,U,(Step.below hb c).trans j,h4⟩,λe=>by
  obtain⟨c2,J,U,j,h4⟩:=h.2 e;exact⟨c2,J,U,(Step.below hb c).trans j,h4⟩⟩
end
end Co
namespace Lk
open Et (E)
abbrev N:=List UInt8
def fH (s:N):E:=⟨s,2,1⟩
theorem LM (s:N):Et.BV (fH s)=true:=by unfold Et.BV fH;simp
structure Has (L:List E) (l:List N):Prop where
 may:Et.aV L=true
 mem:∀y,y∈L↔∃s,s∈l/\y=fH s
 len:L.length=l.length
 nodup:l.Nodup
theorem nJ:Has [] []:=⟨rfl,λy=>by simp,rfl,List.nodup_nil⟩
variable {L:List E} {l:List N} {s:N}
theorem Has.has (h:Has L l) (s:N):Et.ik L s=true↔s∈l:=by
 rw[Et.lH];constructor
 ·rintro⟨y,I,e⟩;obtain⟨z,J,rfl⟩:=(h.mem y).1 I;have:z=s:=e;subst this;exact J
 ·exactλhs=>⟨fH s,(h.mem _).2 ⟨s,hs,rfl⟩,rfl⟩
theorem Has.name (h:Has L l) (hs:s∈l):Tl.dR s=true:=by have I:=(h.mem (fH s)).2 ⟨s,hs,rfl⟩;have:=((Et.dd L).1 h.may).2.1 _ I;unfold Et.okB at this;exact(Bool.and_eq_true_iff.1 this).1
theorem Has.add (h:Has L l) (hn:Tl.dR s=true) (hs:s∉l) (h30:l.length<30):Et.fK L (fH s)=0/\Has (Et.eQ L (fH s)) (l++[s]):=by
 have R:Et.ik L s=false:=by
  cases hh:Et.ik L s with
  |false=>rfl
  |true=>exact absurd ((h.has s).1 hh) hs
 have J:Et.fK L (fH s)=0:=by unfold Et.fK;rw[if_pos h.may,if_pos (show Tl.dR (fH s).n=true from hn),if_pos (LM s),show Et.ik L (fH s).n=false from R,if_neg dc,if_neg (by rw[h.len];omega)]
 refine⟨J,Et.zJ J,λy=>?_,by rw[Et.zW J,h.len];simp,?_⟩
 ·rw[Et.AH J,h.mem];constructor
  ·rintro(rfl|⟨z,I,rfl⟩)
   ·exact⟨s,by simp,rfl⟩
   ·exact⟨z,List.mem_append_left _ I,rfl⟩
  ·rintro⟨z,I,rfl⟩;rcases List.mem_append.1 I with I|I
   ·exact .inr ⟨z,I,rfl⟩
   ·rw[List.mem_singleton.1 I];exact .inl rfl
 ·rw[List.nodup_append];refine⟨h.nodup,by simp,λx hx y U e=>?_⟩;rw[List.mem_singleton.1 U]at e;subst e;exact hs hx
theorem Has.find (h:Has L l) (hs:s∈l):Et.bj L s=0/\Et.dN L s=fH s:=Et.find_eq h.may ((h.mem _).2 ⟨s,hs,rfl⟩)
theorem Has.none (h:Has L l) (hn:Tl.dR s=true) (hs:s∉l):Et.bj L s=6:=by unfold Et.bj;rw[if_pos h.may,if_pos hn,if_neg (λe=>hs ((h.has s).1 e))]
theorem Has.take (h:Has L (s::l)):Et.bj L s=0/\Has (Et.cT L s) l:=by
 have R:=(h.find (s:=s) List.mem_cons_self).1;have J:=List.nodup_cons.1 h.nodup;refine⟨R,Et.wm R,λy=>?_,by have:=Et.take_len R;have:=h.len;rw[List.length_cons]at this;omega,J.2⟩;rw[Et.vT R,h.mem];constructor
 ·rintro⟨⟨z,I,rfl⟩,U⟩;rcases List.mem_cons.1 I with rfl|I
  ·exact absurd rfl U
  ·exact⟨z,I,rfl⟩
 ·rintro⟨z,I,rfl⟩;refine⟨⟨z,List.mem_cons_of_mem _ I,rfl⟩,λe=>?_⟩;have:z=s:=e;subst this;exact J.1 I
def rest (l:List N) (t i:Nat):List N:=(List.range (l.length-i)).map λj=>l.getD ((i+j+t)%l.length) []
theorem C8 (l:List N) (t i:Nat) (hi:i<l.length):rest l t i=l.getD ((i+t)%l.length) []::rest l t (i+1):=by unfold rest;rw[show l.length-i=(l.length-(i+1))+1 by omega,List.range_succ_eq_map,List.map_cons,List.map_map];congr 1;refine List.map_congr_left λj _=>?_;show l.getD ((i+(j+1)+t)%l.length) []=_;rw[show i+(j+1)+t=i+1+j+t by omega]
theorem jE (l:List N) (t i:Nat): (rest l t i).length=l.length-i:=by unfold rest;simp
theorem Has.round (h:Has L l) (t:Nat):Has L (rest l t 0):=by
 have hlen:=jE l t 0;by_cases o:l.length=0
 ·have:l=[]:=List.length_eq_zero_iff.1 o;subst this;exact h
 have I:∀s,s∈rest l t 0↔s∈l:=λs=>by
  unfold rest;rw[List.mem_map];constructor
  ·rintro⟨j,_,rfl⟩;have R:=Nat.mod_lt (0+j+t) (show 0<l.length by omega);simp only[List.getD,List.getElem?_eq_getElem R,Option.getD_some];exact List.getElem_mem R
  ·intro hs;obtain⟨k,U,rfl⟩:=List.getElem_of_mem hs;refine⟨(k+(l.length-t%l.length))%l.length,List.mem_range.2 (oa (Nat.mod_lt (k+(l.length-t%l.length)) (show 0<l.length by omega))),?_⟩;have ht:=Nat.mod_lt t (show 0<l.length by omega);have: (0+(k+(l.length-t%l.length))%l.length+t)%l.length=k:=(by rw[Nat.zero_add,Nat.mod_add_mod,<-Nat.add_mod_mod,show k+(l.length-t%l.length)+t%l.length=k+l.length by omega,Nat.add_mod_right,Nat.mod_eq_of_lt U]);rw[this];simp[List.getD,U]
 refine⟨h.may,λy=>?_,by rw[h.len,hlen];omega,?_⟩
 ·rw[h.mem];constructor
  ·rintro⟨s,hs,e⟩;exact⟨s,(I s).2 hs,e⟩
  ·rintro⟨s,hs,e⟩;exact⟨s,(I s).1 hs,e⟩
 ·unfold rest List.Nodup;rw[List.pairwise_map];refine List.Pairwise.imp_of_mem ?_ (List.pairwise_lt_range (n:=l.length-0));intro a b ha hb A';rw[List.mem_range]at ha hb;have h1:=Nat.mod_lt (0+a+t) (show 0<l.length by omega);have h2:=Nat.mod_lt (0+b+t) (show 0<l.length by omega);simp only[List.getD,List.getElem?_eq_getElem h1,List.getElem?_eq_getElem h2,Option.getD_some];intro e;have J: (0+a+t)%l.length=(0+b+t)%l.length:=(by have:=(List.getElem_inj h.nodup).1 e;exact this);have hd: (b-a)%l.length=0:=(by have:=Nat.sub_mod_eq_zero_of_mod_eq J.symm;rw[show 0+b+t-(0+a+t)=b-a by omega]at this;exact this);rw[Nat.mod_eq_of_lt om]at hd;omega
end Lk
namespace Co
open Go.RowKit
open Et (E)
open Lk (fH)
attribute [local go_sem] Oper.semAt_some
section
variable {w w' w'':World} {c c' c'':C} {fs fs':List Fi} {f fd:Fi} {L L':List E} {g t:Nat} {o:Option (Int×Int)}
def GQ (b:Bool) (P Q:World->Prop) (x:World):Prop:=(b=false->P x)/\(b=true->Q x)
theorem Fit.nb {d:List UInt8} (h:d.length<=384):Sp.nb d.length<=3:=by unfold Sp.nb;omega
theorem rJ (m:List Im.Sl):∀v∈ImW.ag m,v.oneCell'=true:=by intro x hx;obtain⟨j,_,I⟩:=List.mem_flatMap.1 hx;unfold ImW.cR at I;simp at I;rcases I with rfl|rfl|rfl<;>rfl
def Mu (m:List Im.Sl) (s:List UInt8) (c1 c2:C) (fs2:List Fi) (L2:List E):Prop:=∃fd f,fs2=[fd,f]/\f.ty=1/\f.ar=1/\f.d=[]/\f.vs=[]/\c2.aF=ImW.ag (Im.dV m (2:Nat))/\c2.b_.length<=c1.b_.length/\L2=Et.eQ [] (fH s)
theorem va (F:dw w c [fd] [] g t o) (hF:Fit c [fd]) (m:List Im.Sl) (hm:m.length=40) (hs:c.aF=ImW.ag m) (hg:Im.eD m (2:Nat)=0) (s:List UInt8) (hn:Tl.dR s=true) (b1 b2 b3:Nat) (k1:ak w b1 24 [pt g 0]) (k2:ak w b2 9 [.string ⟨(eG s).toArray⟩]) (k3:ak w b3 3 [i6 1]) (o1:c.own b1=0) (o3:c.own b3=0):
 Calls prog 60 #[pt b1 0,pt b2 0,pt b3 0] w (Jh w c [fd] [] g t o (Mu m s) (· =0)):=by
 have A9:Et.bj [] s=6:=Lk.nJ.none hn sj;have HA:=ja (lq F s hn (.inr A9));rw[A9]at HA;have x1:=k1.cell 0;have x2:=k2.cell 0;have H:=ji F hF k1 k3 o1 o3 hm hs hg;have HN:=ja hn;clear F hF k1 k2 k3 o1 o3 hm hs hg hn A9;obtain⟨S,hS⟩:=ex (⟨(eG s).toArray⟩:ByteArray);rw[hS]at HA x2;clear hS;go_enter func60,ntmps60;go_wp2_with fail
 refine HA.a.mono ?_;rintro e w1 ⟨h6,_,Ah⟩;obtain rfl:=h6 rfl;obtain⟨c2,⟨T,Ao,hT⟩,F2,T2⟩:=H.a.seen Ah;have AI:∀b,c.own b=0->¬b=c.g:=λb h0 e=>by rw[e,H.a.du.o1]at h0;cases h0
 have k1:=T2.blk H.c (AI _ H.e);have k3:=T2.blk H.d (AI _ H.f);have KK:=jf F2 T2 k1 k3 Ao hT;clear x1 x2 Ah h6 F2 T2 k1 k3 Ao hT AI;go_upto_region 4 with fail
 have Aq:GQ false (λy=>Bw w1 y) (λy=>∃c3 f,Made c2 [fd] m 1 c3 f/\bD y c3 [fd,f]/\Step w1 c2 y c3) w1.drew:=⟨λ_=>(Below.refl _ w1).drew,λe=>(by cases e)⟩;refine cK 11 [(ez (pt g 0)),(ez (pt g 0)),(ez (pt g 0)),(ez (pt c2.g 0)),(ez (i6 1)),(ez (.tuple #[i6 2,i6 0])),(ez (.tuple #[i6 2,i6 0])),(ez (i6 2)),(ez (i6 0)),(ez (i6 2)),(ez (i6 0))]
  (λf_ x_=>GQ (f_ 5) (λy=>Bw w1 y) (λy=>∃c3 f,Made c2 [fd] m 1 c3 f/\bD y c3 [fd,f]/\Step w1 c2 y c3) x_) (λ_ x_ x'=>af (λ_=>True) x_ x') kj rfl kj ?_ ?_ ?_ ?_
 ·exact Aq
 ·intro i_ j_ v_ x_ x' B7 hv hE;rcases j_ with _|_|_|_|_|_|_|_|_|_|_|j_;all_goals exact hv
 ·refine⟨?_,lz [0,21] [],lz [1,22] [],?_,?_,?_,lz [5,26] [],lz [6,20] [],lz [6,20] [],lz [7,27] [],lz [8,28] [],trivial⟩
  ·intro f a x A' A0 J hG hd hs K hK;have n0:f 0=false:=A';have n1:f 1=false:=J.no 1 0 21 n0 kj;have n2:f 2=false:=J.no 2 1 22 n1 kj;have n3:f 3=false:=J.no 3 2 23 n2 kj;have n5:f 5=false:=J.no 5 3 24 n3 kj;have h0:_=_:=hs 0 kj;clear hd hs A0 J;refine pj ?_;have x0:=(KK.c.ext (hG.1 n5)).cell 0;go_simp;exact hK _ _ rfl hG (af.refl _ _)
  ·intro f a x A' A0 J hG hd hs K hK;have n3:f 3=false:=A';have n5:f 5=false:=J.no 5 3 24 n3 kj;have B8:_=_:=hd 2 23 kj;clear hd hs A0 J;refine pj ?_;have x0:=(KK.a.below (hG.1 n5)).x0;go_simp;exact hK _ _ rfl hG (af.refl _ _)
  ·intro f a x A' A0 J hG hd hs K hK;have n4:f 4=false:=A';have n5:f 5=false:=J.no 5 4 25 n4 kj;have h2:_=_:=hs 2 kj;clear hd hs A0 J;refine pj ?_;have x0:=(KK.d.ext (hG.1 n5)).cell 0;go_simp;exact hK _ _ rfl hG (af.refl _ _)
  ·intro f a x A' A0 J hG hd hs K hK;have n5:f 5=false:=A';have B9:_=_:=hd 3 24 kj;have BB:_=_:=hd 4 25 kj;clear hd hs A0 J;refine pj ?_;have hb:=hG.1 n5;have hN:Calls prog 61 #[pt c2.g 0,i6 1] x (qo x c2 [fd] m 1):=iF (KK.a.du.below hb) m H.g (by rw[KK.e];exact H.h) 1 (.inl rfl) (by show 1<30;decide) H.i;have HN:=ja hN;clear hN;go_simp;refine HN.a.mono ?_;rintro e y ⟨c3,f,rfl,hM,hC,hS⟩;exact hK _ _ rfl ⟨λe=>(by cases e),λ_=>⟨c3,f,hM,hC,(Step.below hb c2).trans hS⟩⟩ (hS.turn.mono λ_ _=>trivial)
 ·intro x hG;replace hG: (λf_ x_=>GQ (f_ 5) (λy=>Bw w1 y) (λy=>∃c3 f,Made c2 [fd] m 1 c3 f/\bD y c3 [fd,f]/\Step w1 c2 y c3) x_) (λj=>decide (j<11)) x:=hG;(try dsimp only at hG);(iterate 11 rintro _ rfl);simp only[ap];(try simp only[Exit.then]);obtain⟨c3,f,hM,Ar,A2⟩:=hG.2 rfl;have e1:c3={c2 with aF:=ImW.ag (Im.dV m (2:Nat)),av:=c2.av.set 2 (i6 c2.tick),b_:=bf c2.b_ (2:Nat),own:=c3.own}:=hM.c';have As:c3.g=c2.g:=(by rw[e1]);have Au:c3.k=c2.k:=(by rw[e1]);obtain⟨B2,Av,hD⟩:=H.a.dir;obtain rfl:fd=B2:=Option.some.inj Av;have F3:dw x c3 [fd,f] [] g t o:=KK.a.move Ar A2 As Au ⟨fd,rfl,hD⟩;have o2:∀b,b<w.heap.size->c.own b=0->c2.own b=0:=λb _ h0=>(by rw[KK.e];exact h0);have k1:ak x b1 24 [pt g 0]:=(A2.bM KK.c.lt (o2 _ H.c.lt H.e)).1.trans KK.c;have k3:ak x b3 3 [i6 1]:=(A2.bM KK.d.lt (o2 _ H.d.lt H.f)).1.trans KK.d;have K3:=jg F3 k1 k3 hM e1 A2 hD;clear e1 As Au Av hD F3 o2 k1 k3 hM Ar A2 hG Aq;generalize x=w3 at*;(go_upto_region 7 with fail);refine wp_region_still_tail 9 kj kj ?_;obtain⟨w4,AR⟩:=ex ({w3 with drawn:=w3.drawn+1}:World);have b4:Bw w3 w4:=(by subst AR;exact(Below.refl _ w3).drew);rw[AR];have F4:=K3.a.below b4;have x1:=F4.x0;have k1:=(K3.b.ext b4).cell 0;have k3:=(K3.c.ext b4).cell 0;have Aw:s.length<=100000:=(by have:=(Tl.e_ s).1 HN.a;omega);have BO:∀V:World,(Instr.build 70 #[(0,.string ⟨s.toArray⟩),(1,i6 2),(2,i6 1)]).run prog V=.ok (.agg #[.string ⟨s.toArray⟩,i6 2,i6 1]) V:=λV=>run_build V 70 _ _ kj;have Aa:=uH F4.du rfl K3.g (fH s) Aw;rw[show Et.fK [] (fH s)=0 from(Lk.nJ.add HN.a sj dc).1]at Aa;have B3:=ja (show Calls prog 39 #[pt c3.g 0,i6 1,.agg #[.string ⟨s.toArray⟩,i6 2,i6 1]] w4 (FI w4 c3 [fd,f] (Et.eQ [] (fH s)) 0)from Aa);have K4:=jd F4 (K3.b.ext b4) (K3.c.ext b4) b4;clear Aa F4 b4 AR Aw;simp only[td];(repeat still_step);refine wpStill_nil ?_;(go_wp2_with fail);refine B3.a.mono ?_;rintro e w5 ⟨rfl,_,A8⟩;obtain⟨c4,R,Ab,⟨B5,T4,A6,Ax⟩,A3,A7⟩:=A8 rfl;replace A3:bD w5 c4 [R,f]:=A3;have B':c4.g=c3.g:=(by rw[A6]);have B0:c4.k=c3.k:=(by rw[A6]);have F5:dw w5 c4 [R,f] (Et.eQ [] (fH s)) g t o:=K4.a.move A3 A7 B' B0 ⟨R,rfl,Ab⟩;have A4:=K3.d.ar;have B1:Calls prog 38 #[pt c4.g 0,i6 2,i6 1] w5 (ub w5 c4 [R,f] 1 f 1):=gY A3 1 f rfl dc 2 rfl 1 (by rw[A4];decide) (by rw[A4];decide) (by rw[A4];decide) (by rw[A4];decide);have ob:∀{b:Nat} {ty:Nat} {l:List Value},ak w b ty l->c.own b=0->ak w4 b ty l->ak w5 b ty l:=λ{b ty l} hb h0 h4=>(by have h1:c2.own b=0:=(by rw[KK.e];exact h0);have h3:c3.own b=0:=(K3.f.own b (Nat.lt_of_lt_of_le hb.lt KK.b.size)).trans h1;exact(A7.bM h4.lt h3).1.trans h4);have k1:=ob H.c H.e K4.b;have k3:=ob H.d H.f K4.c;have K5:=jf F5 Ab A6 Ax A7 B1;have x1:=F5.x0;have y1:=k1.cell 0;have y3:=k3.cell 0;clear A8 Ab A6 Ax A3 A7 B' B0 F5 A4 B1 ob k1 k3;(go_wp2_with fail);refine K5.f.mono ?_;rintro e w6 ⟨c5,f5,rfl,U,⟨B6,I⟩,A1,A5⟩;have K6:=Lib.hid (⟨U,I,A1,A5⟩:_/\_/\_/\_);clear U I A1 A5 x1 y1 y3;go_wp2;go_ret;obtain⟨U,I,A1,A5⟩:=K6.out;replace A1:bD w6 c5 [R,f5]:=A1;have hM:=K3.d;have e3:=K3.e;have e4:=K5.c;have e2:=KK.e;have F6:dw w6 c5 [R,f5] (Et.eQ [] (fH s)) g t o:=K5.a.move A1 A5 (by rw[I]) (by rw[I]) ⟨R,rfl,K5.b⟩;have B4:Step w c w1 c2:=H.a.du.step KK.b (by rw[e2]);have hh:=(Lk.nJ.add HN.a sj dc).2;refine⟨0,rfl,rfl,λ_=>⟨c5,[R,f5],Et.eQ [] (fH s),F6,(((B4.trans K3.f).trans (Step.below K4.d c3)).trans K5.e).trans A5,?_,by rw[I,e4,e3,e2],by rw[I,e4,e3,e2],by rw[I,e4,e3,e2],R,f5,rfl,?_,?_,?_,?_,by rw[I,e4,e3],by rw[show c5.b_=bf c.b_ (2:Nat) by rw[I,e4,e3,e2]];exact List.length_filter_le _ _,rfl⟩,λe=>absurd rfl e⟩
  ·have Ad:=K5.b;refine⟨by show 2<=2;decide,λf' Ae=>?_,by rw[I,e4,e3,e2];exact H.b.cL,?_,?_⟩
   ·rcases List.mem_cons.1 Ae with rfl|Ae
    ·rw[Ad.v];refine Fit.nb ?_;rw[Ad.d];have h1:=mi Ad.may;have h2:=hh.len;simp at h2;omega
    ·obtain rfl:=List.mem_singleton.1 Ae;rw[U.vs,show({f with ar:=f.ar+1}:Fi).vs=f.vs from rfl,hM.vs];decide
   ·rw[show c5.b_=bf c.b_ (2:Nat) by rw[I,e4,e3,e2]];unfold bf;exact⟨Nat.le_trans (List.length_filter_le _ _) H.b.b_.1,λy hy=>H.b.b_.2 y (List.mem_filter.1 hy).1⟩
   ·refine⟨λv hv=>?_,λv hv=>?_⟩
    ·rw[show c5.aF=ImW.ag (Im.dV m (2:Nat)) by rw[I,e4,e3]]at hv;exact rJ _ v hv
    ·rw[show c5.av=c4.av by rw[I],e4]at hv;refine K5.d ?_ v hv;rw[show c3.av=c2.av.set 2 (i6 c2.tick) by rw[e3]]
     refineλu hu=>(List.mem_or_eq_of_mem_set hu).elim (λh=>?_) λh=>(by rw[h];rfl);rw[show c2.av=T by rw[e2]]at h;exact KK.f H.b.one.2 u h
  ·rw[U.ty];exact hM.ty
  ·rw[U.ar];show f.ar+1=1;rw[hM.ar];rfl
  ·rw[U.d];exact hM.d
  ·rw[U.vs];exact hM.vs
theorem Lm:∀args x,(callFunc 60 args).run prog x=.ok (.enter 60 args) x:=λargs x=>by have h:=func60;go_simp
theorem xW (F:dw w c [fd] [] g t o) (hF:Fit c [fd]) (ha:0<=c.age) (ha1:c.age<=900000) (m:List Im.Sl) (hm:m.length=40) (hs:c.aF=ImW.ag m) (hg:Im.eD m (2:Nat)=0) (s:List UInt8) (hn:Tl.dR s=true):
 Calls prog 20 #[pt g 0,.string ⟨(eG s).toArray⟩,i6 1] w λe w'=>e=.returned (i6 0)/\pY w c [fd] [] g t o (Mu m s) 0 w':=by
 have H:=jh F hF ha ha1 hm hs hg hn;clear F hF ha ha1 hm hs hg hn;have A4:∀(fn:Fn) (first cap:Array Value) (w:World),(Instr.makeFunc fn first cap).run prog w=.ok (.func fn first cap) w:=λ_ _ _ _=>rfl;obtain⟨S,hS⟩:=ex (⟨(eG s).toArray⟩:ByteArray);rw[hS];have A2:=ja hS;clear hS;go_enter func20,ntmps20;go_upto_region 1 with fail
 obtain⟨q,hq⟩:=ex w.heap.size;obtain⟨wa,ea,ka,ba,sa⟩:=ax w 24 #[pt g 0] q hq;rw[ea];obtain⟨wb,eb,kb,bb,sb⟩:=ax wa 9 #[.string S] (q+1) sa;rw[eb];obtain⟨w2,e2,k2,b2,s2⟩:=ax wb 3 #[i6 1] (q+1+1) sb;rw[e2,hq];have I:Below w.heap.size w wa:=hq▸ba;have J:Below wa.heap.size wa wb:=sa▸bb;have R:Below wb.heap.size wb w2:=sb▸b2;have U:=(I.trans (J.mono I.size)).trans (R.mono (Nat.le_trans I.size J.size));have kq:=(ka.ext J).ext R;have ks:=kb.ext R;have x0:=kq.cell 0;have j:=je U kq ks k2 (H.a.below U);have OW:=jc (H.a.du.hi q (Nat.le_of_eq hq)) (H.a.du.hi (q+1) om) (H.a.du.hi (q+1+1) om);have A0:=iR j.e H.b H.c H.d 3 dc 60 #[pt q 0,pt (q+1) 0,pt (q+1+1) 0] Lm (Mu m s) (· =0) λx c1 hA=>by have A':∀{b ty:Nat} {l:List Value},ak w2 b ty l->c.own b=0->ak x b ty l:=λ{b ty l} hk h0=>(hA.bM b hk.lt h0).1.trans hk;have A1:=A' j.c OW.b;rw[<-A2.a]at A1;exact va hA.mT (H.b.l_ hA.l_) m H.e (hA.l_.aF.trans H.f) H.g s H.h q (q+1) (q+1+1) (A' j.b OW.a) A1 (A' j.d OW.c) (hA.bM q j.b.lt OW.a).2 (hA.bM _ j.d.lt OW.c).2
 have A3:=ja A0;clear A0 ea ka ba sa eb kb bb sb e2 k2 b2 s2 I J R U kq ks hq;go_wp2_with fail
 refine A3.a.mono ?_;rintro e w3 ⟨z,rfl,rfl,hz⟩;have HZ:=ja (hz.behind j.a);clear hz x0;go_wp2;go_ret;exact⟨rfl,HZ.a⟩
theorem xE (F:dw w c [fd] [] g t o) (hF:Fit c [fd]) (ha:0<=c.age) (ha1:c.age<=900000) (m:List Im.Sl) (hm:m.length=40) (hs:c.aF=ImW.ag m) (hg:Im.eD m (2:Nat)=0) (s:List UInt8) (hn:Tl.dR s=true):
 Calls prog 5 #[pt g 0,.string ⟨(eG s).toArray⟩] w λe w'=>e=.returned (i6 0)/\pY w c [fd] [] g t o (Mu m s) 0 w':=by
 have I:=ja (xW F hF ha ha1 m hm hs hg s hn);clear F hF ha ha1 hm hs hg hn;obtain⟨S,hS⟩:=ex (⟨(eG s).toArray⟩:ByteArray);rw[hS]at I|-;clear hS;go_enter func5,ntmps5;go_wp2_with fail
 refine I.a.mono ?_;rintro e U ⟨rfl,J⟩;have R:=ja J;clear J;go_wp2;go_ret;exact⟨rfl,R.a⟩
end
end Co
namespace Co
open Go.RowKit
open EtW (dx)
open Et (E)
open Lk (fH)
attribute [local go_sem] Oper.semAt_some
section
variable {w w' w'':World} {c c' c'':C} {fs fs':List Fi} {f fd:Fi} {L L':List E} {g t:Nat} {o o':Option (Int×Int)}
structure gI (t:Nat) (w:World) (c:C) (w':World) (c':C):Prop where
 turn:af (λb=>c.own b≠0\/b=t) w w'
 own:∀b,b<w.heap.size->c'.own b=c.own b
theorem gI.of (h:Step w c w' c'):gI t w c w' c':=⟨h.turn.mono λ_ e=>.inl e,h.own⟩
theorem gI.trans (h:gI t w c w' c') (k:gI t w' c' w'' c''):gI t w c w'' c'':=
 ⟨h.turn.trans k.turn λb e=>by
  by_cases J:b<w.heap.size
  ·exact .inl (e.imp (λe=>by rw[<-h.own b J];exact e) id)
  ·exact .inr om,λb I=>(k.own b (Nat.lt_of_lt_of_le I h.turn.size)).trans (h.own b I)⟩
theorem gI.below (hb:Bw w w') (c:C):gI t w c w' c:=.of (Step.below hb c)
theorem gI.bM (h:gI t w c w' c') {b:Nat} (hb:b<w.heap.size) (h0:c.own b=0) (ht:b≠t):w'.heap[b]? =w.heap[b]? /\c'.own b=0:=⟨h.turn.block b hb λe=>e.elim (λe=>e h0) ht,(h.own b hb).trans h0⟩
structure Calm (c c':C):Prop where
 l_:kH c c'
 age:c'.age=c.age
theorem Calm.trans (h:Calm c c') (k:Calm c' c''):Calm c c'':=⟨h.l_.trans k.l_,k.age.trans h.age⟩
theorem dw.GY (F:dw w c fs L g t o) (h:Tb.nz w t o' w'):dw w' c fs L g t o'/\gI t w c w' c:=⟨⟨F.du.AM h.2 F.ot F.mN (Tb.small o) dc (by rw[F.iN.tB];decide),h.2.blk F.yU (aR F.yU F.mN dc),h.1,F.og,F.ot,F.iN,F.dir⟩,⟨h.2.mono λ_ e=>.inr e,λ_ _=>rfl⟩⟩
theorem dw.calm (F:dw w c fs L g t o) (h:Seen w c fs w'):∃c',Calm c c'/\dw w' c' fs L g t o/\gI t w c w' c':=by obtain⟨c',⟨T,I,J⟩,R,U⟩:=F.seen h;have hS:Step w c w' c':=F.du.step U (by rw[I]);exact⟨c',⟨⟨by rw[I],by rw[I],by rw[I],by rw[I],by rw[I],by rw[I];exact J⟩,by rw[I]⟩,R,.of hS⟩
theorem dw.Ay (F:dw w c fs L g t o) (h:JD w c fs w'):∃c',Calm c c'/\dw w' c' fs L g t o/\gI t w c w' c'/\c'.g=c.g:=by obtain⟨I,hC,J⟩:=h;have hS:Step w c w' {c with tick:=I}:=F.du.step J rfl;exact⟨{c with tick:=I},⟨⟨rfl,rfl,rfl,rfl,rfl,nj.refl _⟩,rfl⟩,F.move hC hS rfl rfl F.dir,.of hS,rfl⟩
def qI (w:World) (c:C) (fs:List Fi) (L:List E) (g t:Nat) (o':Option (Int×Int)) (w':World):Prop:=∃c',Calm c c'/\dw w' c' fs L g t o'/\gI t w c w' c'
theorem lY (F:dw w c fs L g t none) (s:List UInt8) (hn:Tl.dR s=true) (hz:Et.bj L s=0) (hf:Et.dN L s=fH s) (md:Int) (hm:md=1\/md=2):
 Calls prog 6 #[pt g 0,.string ⟨(eG s).toArray⟩,i6 md] w λe w'=>e=.returned (.tuple #[i6 0,i6 0])/\qI w c fs L g t (some (md,0)) w':=by
 have H:=jd F hn hz hf;have x0:=F.x0;have A8: (md==8)=false:=by rcases hm with rfl|rfl<;>rfl
 have A9: (md != 8)=true:=by rcases hm with rfl|rfl<;>rfl
 clear F hn hz hf;obtain⟨S,hS⟩:=ex (⟨(eG s).toArray⟩:ByteArray);rw[hS];have A5:=ja hS;clear hS;go_enter func6,ntmps6;go_wp2_with fail
 refine(jJ H.a.du).mono ?_;rintro e w1 ⟨rfl,A0⟩;obtain⟨c1,A1,F1,O1,A6⟩:=H.a.Ay A0;have Z1:=jc A1 F1 O1;clear A0 A1 F1 O1 A6 x0;go_wp2_with fail
 refine(Tb.vi md hm _).mono ?_;rintro e AI ⟨rfl,hw⟩;rw[hw];clear hw;have o:=lS Z1.b s H.b H.c;rw[A5.a,H.d]at o;have A7:=ja o;clear o;go_wp2_with fail
 refine A7.a.mono ?_;rintro e w2 ⟨rfl,A2⟩;obtain⟨c2,A3,F2,O2⟩:=Z1.b.calm A2;have Z2:=jc (Z1.a.trans A3) F2 (Z1.c.trans O2);clear A2 A3 F2 O2;unfold dx fH;go_upto_region 5 with fail
 obtain⟨q,hq⟩:=ex w2.heap.size;obtain⟨J,e3,k3,b3,s3⟩:=ax w2 70 #[.string ⟨s.toArray⟩,i6 2,i6 1] q hq;rw[e3,hq];have A':Below w2.heap.size w2 J:=hq▸b3;have F3:=Z2.b.below A';have Z3:=jd Z2.a F3 (Z2.c.trans (gI.below A' c2)) k3;have y1:=k3.cell 1;have y2:=k3.cell 2;have x1:=F3.x1;clear e3 k3 b3 s3 A' F3 hq;go_upto_region 12 with fail
 have A4:GQ false (λy=>Below J.heap.size J y) (λy=>Tb.nz J t (some (md,0)) y) J.drew:=⟨λ_=>(Below.refl _ J).drew,λe=>(by cases e)⟩;refine cK 12 [(ez (pt g 0)),(ez (pt g 0)),(ez (pt g 1)),(ez (pt t 0)),(ez (pt q 1)),(ez (i6 2)),(ez (i6 md)),(ez (.tuple #[i6 0,i6 0])),(ez (i6 0)),(ez (i6 0)),(ez (i6 0)),(ez (i6 0))]
  (λf_ x_=>GQ (f_ 7) (λy=>Below J.heap.size J y) (λy=>Tb.nz J t (some (md,0)) y) x_) (λ_ x_ x'=>af (λ_=>True) x_ x') kj rfl kj ?_ ?_ ?_ ?_
 ·exact A4
 ·intro i_ j_ v_ x_ x' AR hv hE;rcases j_ with _|_|_|_|_|_|_|_|_|_|_|_|j_;all_goals exact hv
 ·refine⟨lz [] [0],lz [0,44] [],lz [1,45] [],?_,lz [] [8],?_,lz [] [2],?_,lz [7,51] [],lz [7,51] [],lz [8,52] [],lz [9,53] [],trivial⟩
  ·intro f a x R U I hG hd hs K hK;have n3:f 3=false:=R;have n7:f 7=false:=I.no 7 3 47 n3 kj;have Aa:_=_:=hd 2 46 kj;clear hd hs U I;refine pj ?_;have x0:=(Z3.b.below (hG.1 n7)).x1;go_simp;exact hK _ _ rfl hG (af.refl _ _)
  ·intro f a x R U I hG hd hs K hK;have n5:f 5=false:=R;have n7:f 7=false:=I.no 7 5 49 n5 kj;have Ab:_=_:=hd 4 48 kj;clear hd hs U I;refine pj ?_;have x0:=(Z3.d.ext (hG.1 n7)).cell 1;go_simp;exact hK _ _ rfl hG (af.refl _ _)
  ·intro f a x R U I hG hd hs K hK;have n7:f 7=false:=R;have Ad:_=_:=hd 3 47 kj;have Ae:_=_:=hd 5 49 kj;have Ah:_=_:=hd 6 50 kj;clear hd hs U I;refine pj ?_;have hb:=hG.1 n7;go_simp;refine(Tb.lY (Z3.b.mN.ext hb) md hm).mono ?_;rintro e y ⟨rfl,h1,h2⟩;exact hK _ _ rfl ⟨λe=>(by cases e),λ_=>⟨h1,(af.aj (X:=(· =t)) hb).trans h2 λ_ e=>.inl e⟩⟩ (h2.mono λ_ _=>trivial)
 ·intro x hG;replace hG: (λf_ x_=>GQ (f_ 7) (λy=>Below J.heap.size J y) (λy=>Tb.nz J t (some (md,0)) y) x_) (λj=>decide (j<12)) x:=hG;(try dsimp only at hG);(iterate 12 rintro _ rfl);simp only[Act.put,List.setIfInBounds_toArray,List.set_cons_zero,List.set_cons_succ,gC,List.getD_cons_zero,List.getD_cons_succ];(try simp only[Exit.then]);have hP:=hG.2 rfl;obtain⟨F4,O4⟩:=Z3.b.GY hP;have Z4:=ja (show qI w c fs L g t (some (md,0)) x from⟨c2,Z3.a,F4,Z3.c.trans O4⟩);clear hG A4 hP F4 O4 y1 y2 x1;go_wp2;go_ret2;exact⟨rfl,Z4.a⟩
end
end Co
namespace Co
open Go.RowKit
open EtW (dx)
open Et (E)
open Lk (fH)
attribute [local go_sem] Oper.semAt_some
section
variable {w w' w'':World} {c c' c'':C} {fs fs':List Fi} {f fd fl:Fi} {L L':List E} {g t:Nat} {o o':Option (Int×Int)}
def J9 (B ty:Nat) (z cs:List Value) (b:Bool) (u:Value) (V:World):Prop:=∃t,u=pt t 0/\B<=t/\ak V t ty (cond b cs z)
def Gt (st slot ty:Nat) (cs:List Value) (i:Nat) (a:Act) (x x':World):Prop:=(i≠st->Bw x x')/\(i=st->∃t,a.tmps.getD slot undef=pt t 0/\ak x' t ty cs)
theorem Gt.of {st slot ty i:Nat} {cs:List Value} {a:Act} {x x':World} (h:i≠st) (hb:Bw x x'):Gt st slot ty cs i a x x':=⟨λ_=>hb,λe=>absurd e h⟩
theorem J9.Ht {B st slot ty i:Nat} {z cs:List Value} {a:Act} {x x':World} {f:Nat->Bool} (h:Gt st slot ty cs i a x x') (hv:J9 B ty z cs (f st) (a.tmps.getD slot undef) x):J9 B ty z cs (decide (st=i)||f st) (a.tmps.getD slot undef) x':=by
 obtain⟨t,J,R,U⟩:=hv;by_cases hi:i=st
 ·subst hi;obtain⟨j,I,o⟩:=h.2 rfl;rw[J]at I;obtain rfl:t=j:=(by injection I with I;injection I with I;injection I);exact⟨t,J,R,by rw[decide_eq_true rfl];exact o⟩
 ·rw[decide_eq_false (λe=>hi e.symm),Bool.false_or];exact⟨t,J,R,U.ext (h.1 hi)⟩
theorem fq {B t:Nat} {a x:World} (h:Below B a x) (ht:B<=t) (o:Nat) (vs:List Value):Below B a (x.setCells t o vs):=by
 have T:=af.setCells x t o vs;refine h.trans ⟨T.os,T.tape,T.output,T.size,λk R=>?_⟩;by_cases hx:k<x.heap.size
 ·exact T.block k hx om
 ·have I:x.heap[k]? =none:=Array.getElem?_eq_none om;have J: (x.setCells t o vs).heap[k]? =none:=Array.getElem?_eq_none (by rw[fc];omega);rw[I,J]
theorem dw.LH {x x':World} {c2:C} (F0:dw w c fs L g t o) (F:dw x c2 fs L' g t o') (hk:c2.k=c.k) {q:Nat} (hq:w.heap.size<=q) (h0:c2.own q=0) (T:af (· =q) x x'):dw x' c2 fs L' g t o':=by
 have h:=F0.du;have J:nC x c2 fs (· =q):={
  own:=λb e _=>by rw[show b=q from e];exact h0
  gl:=λb I e=>by have:=h.gl.lt;have e:b=q:=e;omega
  bad:=λe=>by rw[hk]at e;have:=h.bad.lt;have e:c.k.bad=q:=e;omega
  aU:=λb I e=>by rw[hk]at I;have:=(h.aU.2 b I).2;have e:b=q:=e;omega
  cU:=λi f p R hp=>by have U:=(h.fi i f R).cU p hp;exact⟨λe=>by have:=U.blk.lt;have e:p.b=q:=e;omega,λe=>by have:=U.data.lt;have e:p.data=q:=e;omega,λe=>by have:=U.nodes.lt;have e:p.nodes=q:=e;omega⟩
  jW:=λi f n v b R j I e=>by have hO:=(h.fi i f R).jW n v j;have:=oM hO.1 I (by rw[Sp.aM];omega);have e:b=q:=e;omega}
 exact⟨F.du.rD T J,T.blk F.yU (λe=>by have:=F0.yU.lt;have e:g=q:=e;omega),T.blk F.mN (λe=>by have:=F0.mN.lt;have e:t=q:=e;omega),F.og,F.ot,F.iN,F.dir⟩
theorem BK (F:dw w c [fd,fl] L g t o) (s:List UInt8) (hn:Tl.dR s=true) (hz:Et.bj L s=0) (hf:Et.dN L s=fH s):
 Calls prog 11 #[pt g 0,.string ⟨(eG s).toArray⟩] w λe w'=>e=.returned (.tuple #[.agg (i6 2::fl.x.cells).toArray,i6 0])/\qI w c [fd,fl] L g t o w':=by
 have H:=jd F hn hz hf;clear F hn hz hf;obtain⟨S,hS⟩:=ex (⟨(eG s).toArray⟩:ByteArray);rw[hS];have Ah:=ja hS;clear hS;go_enter func11,ntmps11;go_upto_region 1 with fail
 generalize hW:w.alloc (.cells _ 43)=w0;have k0:ak w0 w.heap.size 43 (i6 0::X.cells ⟨0,0,0,0,0⟩):=by rw[<-hW];exact ak.new w _ _
 have b0:Below w.heap.size w w0:=by rw[<-hW];exact bh.alloc lh _
 clear hW;obtain⟨J,A2⟩:=ex w.heap.size;rw[A2]at k0|-;have H0:=je (H.a.below b0) k0 b0 (H.a.du.hi J om) A2;have x0:=H0.a.x0;clear k0 b0 A2;go_wp2_with fail
 refine(jJ H0.a.du).mono ?_;rintro e w1 ⟨rfl,A7⟩;obtain⟨c1,A8,F1,O1,Ao⟩:=H0.a.Ay A7;have A3:J≠t:=by have:=H.a.mN.lt;have:=H0.e;omega
 have s1:=O1.bM H0.b.lt H0.d A3;have Z1:=jf A8 F1 ((gI.below H0.c c).trans O1) (show ak w1 J _ _ from s1.1.trans H0.b) s1.2 A3;clear A7 A8 F1 O1 Ao x0 s1 A3;have A4:=lS Z1.b s H.b H.c;rw[Ah.a,H.d]at A4;have Aq:=ja A4;clear A4;go_wp2_with fail
 refine Aq.a.mono ?_;rintro e w2 ⟨rfl,A9⟩;obtain⟨c2,AI,F2,O2⟩:=Z1.b.calm A9;have s2:=O2.bM Z1.d.lt Z1.e Z1.f;have Z2:=je (Z1.a.trans AI) F2 (Z1.c.trans O2) (show ak w2 J _ _ from s2.1.trans Z1.d) s2.2;clear A9 AI F2 O2 s2;unfold dx fH;go_upto_region 3 with fail
 obtain⟨q,hq⟩:=ex w2.heap.size;obtain⟨U,e3,k3,b3,s3⟩:=ax w2 70 #[.string ⟨s.toArray⟩,i6 2,i6 1] q hq;rw[e3,hq];have A':Below w2.heap.size w2 U:=hq▸b3;have F3:=Z2.b.below A';have Z3:=je Z2.a F3 (Z2.c.trans (gI.below A' c2)) k3 (Z2.d.ext A');have y1:=k3.cell 1;clear e3 k3 b3 s3 A' F3 hq;go_upto_region 5 with fail
 have AR:Below U.heap.size U U.drew:=(Below.refl _ U).drew;refine fP 13 [(ey (pt g 0)),(ey (pt g 0)),(ey (pt g 0)),(ey (pt c2.g 0)),(ey (pt q 1)),(ey (i6 2)),(ey (.tuple #[fl.x.val,i6 0])),(ey (.tuple #[fl.x.val,i6 0])),(ey fl.x.val),(ey (i6 0)),(λf_ u x_=>J9 U.heap.size 41 (X.cells ⟨0,0,0,0,0⟩) fl.x.cells (f_ 11) u x_),(ey undef),(ey (i6 0))]
  (λ_ x_=>Below U.heap.size U x_) (λi_ a_ x_ x'=>Gt 11 8 41 fl.x.cells i_ a_ x_ x') kj rfl kj ?_ ?_ ?_ ?_
 ·exact AR
 ·intro i_ j_ d_ f_ a_ x_ x' B3 hd hv hE;rcases j_ with _|_|_|_|_|_|_|_|_|_|_|_|_|j_;(all_goals first|exact hv|skip);obtain rfl:8=d_:=Option.some.inj hd;exact J9.Ht hE hv
 ·refine⟨lz [] [0],lz [0,25] [],lz [1,26] [],lx [2,27] [] λf x hG=>(Z3.b.below hG).x0,lz [] [6],lx [4,29] [] λf x hG=>(Z3.d.ext hG).cell 1,?_,lz [6,31] [],lz [7,24] [],lz [7,24] [],?_,?_,lz [9,33] [],trivial⟩
  ·intro f a x A0 R I hG hd hs K hK;have B4:_=_:=hd 3 28 kj;have B5:_=_:=hd 5 30 kj;clear hd hs R I;refine pj ?_;go_simp;refine(lK (Z3.b.du.below hG) 1 fl rfl dc 2 rfl).mono ?_;rintro e y ⟨rfl,hb⟩;exact hK _ _ rfl (hG.trans (hb.mono hG.size)) (Gt.of dc hb)
  ·intro f a x A0 R I hG hd hs K hK;have Ar:f 10=false:=A0;have A5:f 11=false:=I.no 11 10 8 Ar kj;clear hd hs R I;refine pj ?_;go_simp;have hb:=(Below.refl x.heap.size x).alloc lh (.cells (X.cells ⟨0,0,0,0,0⟩).toArray 41);have hk:=ak.new x 41 (X.cells ⟨0,0,0,0,0⟩).toArray;refine hK _ _ ?_ (hG.trans (hb.mono hG.size)) (Gt.of dc hb);exact⟨x.heap.size,rfl,hG.size,by show ak _ _ _ (cond (decide (11=10)||f 11) _ _);rw[A5];exact hk⟩
  ·intro f a x A0 R I hG hd hs K hK;have A5:f 11=false:=A0;have h8:=hd 10 8 kj;have As:_=_:=hd 8 32 kj;clear hd hs R I;refine pj ?_;obtain⟨t',ht,Au,h0⟩:=h8;rw[A5]at h0;refine wp_store_mid 41 (.tmp 8) (.tmp 32) rfl t' 0 fl.x.cells.toArray ht As (h0.there 0 _ (by show 0+23<=23;decide)) kj (all_oneCell_toArray (dv fl.x)) ?_;exact hK _ _ rfl (fq hG (Nat.le_trans Au lh) 0 _) ⟨λe=>absurd rfl e,λ_=>⟨t',ht,h0.setCells fl.x.cells 0 (by show 0+23<=23;decide)⟩⟩
 ·intro x hG;replace hG: (λ_ x_=>Below U.heap.size U x_) (λj=>decide (j<13)) x:=hG;(try dsimp only at hG);(iterate 10 rintro _ rfl);rintro v10 Aa _ rfl;simp only[Act.put,List.setIfInBounds_toArray,List.set_cons_zero,List.set_cons_succ,gC,List.getD_cons_zero,List.getD_cons_succ];(try simp only[Exit.then]);obtain⟨t8,rfl,Av,A1⟩:=Aa;replace A1:ak x t8 41 fl.x.cells:=A1;have kq:=Z3.d.ext hG;have ki:=Z3.e.ext hG;have y1:=kq.cell 1;have F5:=Z3.b.below hG;have o2:c2.own J=0:=Z2.e;have Ab:w.heap.size<=J:=Nat.le_of_eq H0.e;have Aw:=A1.range;have Ax:=ki.there 0 (i6 2::fl.x.cells).length (by show 0+24<=24;decide);have Ad: (prog.info? 43).map (·.size)=some (i6 2::fl.x.cells).length:=kj;have B':∀v∈i6 2::fl.x.cells,v.oneCell'=true:=λv hv=>(List.mem_cons.1 hv).elim (λe=>by rw[e];rfl) (dv fl.x v);have B0:∀V:World,(Instr.build 43 #[(0,i6 2),(1,.agg fl.x.cells.toArray)]).run prog V=.ok (.agg (i6 2::fl.x.cells).toArray) V:=λV=>run_build V 43 _ _ kj;have Z5:=je F5 ki o2 Ab hG.size;have Ae:=ja hG;clear kq ki F5 o2 Ab hG AR Av A1;unfold X.val;generalize A6:fl.x.cells=xc at*;(go_wp2_with(first|refine aw 41 (.tmp 8) rfl rfl t8 0 rfl xc _ Aw underlying41 rfl (by rw[<-A6];kernel_rfl) ?_|(refine wpList_build rfl 43 [(0,.tmp 39),(1,.tmp 40)] rfl (r:=?r9) ?h9 ?_;case h9=>exact B0 _)|refine cM rfl 43 (.tmp 4) (.tmp 41) rfl J 0 (i6 2::xc) rfl rfl Ax Ad B' ?_));have k6:=Z5.b.setCells (i6 2::xc) 0 (by rw[<-A6];show 0+24<=24;decide);have T6:=af.setCells x J 0 (i6 2::xc);obtain⟨w6,B1⟩:=ex (x.setCells J 0 (i6 2::xc));rw[B1]at k6 T6|-;have B2:w6.rangeAt J 0 (i6 2::xc):=(by have h:=k6.range;subst A6;exact h);refine bodyPost_ret (v:=.tuple #[.agg (i6 2::xc).toArray,i6 0]) (bG (i6 2::xc) _ results11 rfl B2 underlying43 rfl Ad rfl) rfl ?_;refine⟨rfl,c2,Z3.a,H.a.LH Z5.a Z3.a.l_.k Z5.d Z5.c T6,((Z3.c.trans (gI.below Ae.a c2))).turn.trans T6 λb e=>.inr (by rw[show b=J from e];exact Z5.d),(Z3.c.trans (gI.below Ae.a c2)).own⟩
end
end Co
namespace Co
open Go.RowKit
open Et (E)
attribute [local go_sem] Oper.semAt_some
section
variable {w w' w'':World} {c c' c'':C} {fs fs':List Fi} {f fd fl:Fi} {L L':List E} {g t:Nat} {o o':Option (Int×Int)}
theorem np (F:dw w c [fd,fl] L g t o) (hl:0<fl.ar):
 Calls prog 33 #[pt g 0,i6 2] w λe w'=>e=.returned (i6 0)/\Below w.heap.size w w':=by
 have H:=ja F;have x0:=F.x0;have R:=lK F.du 1 fl rfl dc 2 rfl;obtain⟨I,J⟩:=ex fl.x.cells;have h1:I[1]? =some (i6 fl.ar):=by rw[<-J];rfl
 have hlen:I.length=23:=by rw[<-J];rfl
 have A': (prog.info? 41).map (·.size)=some I.length:=by rw[hlen];kernel_rfl
 have A3:∀v∈I,v.oneCell'=true:=by rw[<-J];exact dv fl.x
 unfold X.val at R;rw[J]at R;have HS:=ja R;have U:=ja hlen;have A4:=ja h1;clear F R J hlen h1;go_enter func33,ntmps33;go_wp2_with fail
 refine HS.a.mono ?_;rintro e j ⟨rfl,b1⟩;have B1:=ja b1;clear x0 b1;go_upto_region 2 with(refine bE rfl 41 (.tmp 5) (.tmp 14) rfl I rfl rfl (by rw[U.a];exact Nat.le_refl _) rfl A' A3 ?_)
 obtain⟨q,hq⟩:=ex j.heap.size;obtain⟨w2,e2,k2,b2,s2⟩:=ax j 41 (X.cells ⟨0,0,0,0,0⟩).toArray q hq;have A0:j.alloc (.cells #[i6 0,i6 0,i6 0,i6 0,i6 0,i6 0,.int .u32 0,i6 0,.int .u32 0,i6 0,.int .u32 0,i6 0,.int .u32 0,i6 0,.int .u32 0,i6 0,.int .u32 0,i6 0,.int .u32 0,i6 0,.int .u32 0,i6 0,.int .u32 0] 41)=w2:=e2;rw[A0,hq];have A1:Below j.heap.size j w2:=hq▸b2;have k3:ak (w2.setCells q 0 I) q 41 _:=k2.setCells I 0 (by rw[U.a];show 0+23<=23;decide);have b3:Below j.heap.size j (w2.setCells q 0 I):=fq A1 (Nat.le_of_eq hq) 0 I;generalize w2.setCells q 0 I=w3 at*;have A2:mS (X.cells ⟨0,0,0,0,0⟩) 0 I=I:=by unfold mS;rw[U.a];show []++I++[]=I;rw[List.append_nil,List.nil_append]
 rw[show mS (X.cells ⟨0,0,0,0,0⟩).toArray.toList 0 I=I from A2]at k3;have y1:w3.cell? (ae q 1)=some (i6 fl.ar):=(k3.cell 1).trans A4.a;have F3:=H.a.below (B1.a.trans (b3.mono B1.a.size));have B3:=jb (B1.a.trans (b3.mono B1.a.size)) F3;have x1:=F3.x1;have x0:=F3.x0;clear e2 A0 k2 b2 s2 A1 k3 b3 A2 hq F3;have A5:decide (0<fl.ar)=true:=decide_eq_true hl;go_wp2;go_ret;exact⟨rfl,B3.a⟩
theorem rX (F:dw w c [fd,fl] L g t none) (hl:fl.ar=0) (m:List Im.Sl) (hm:m.length=40) (hs:c.aF=ImW.ag m) (hd:Im.dY m 2≠0) (hg:c.b_.length<=100):
 Calls prog 33 #[pt g 0,i6 2] w λe w'=>e=.returned (i6 0)/\∃c',c'={c with av:=c.av.set 2 (i6 0),b_:=dk c.b_ 2 (.agg #[])}/\dw w' c' [fd] L g t none/\Step w c w' c':=by
 have H:=ja F;have HD:=je hl hm hs hd hg;have x0:=F.x0;have R:=lK F.du 1 fl rfl dc 2 rfl;obtain⟨I,J⟩:=ex fl.x.cells;have h1:I[1]? =some (i6 fl.ar):=by rw[<-J];rfl
 have hlen:I.length=23:=by rw[<-J];rfl
 have A0: (prog.info? 41).map (·.size)=some I.length:=by rw[hlen];kernel_rfl
 have A7:∀v∈I,v.oneCell'=true:=by rw[<-J];exact dv fl.x
 unfold X.val at R;rw[J]at R;have HS:=ja R;have j:=ja hlen;have A8:=ja h1;clear F R J hlen h1 hl hm hs hd hg;go_enter func33,ntmps33;go_wp2_with fail
 refine HS.a.mono ?_;rintro e o ⟨rfl,b1⟩;have B1:=ja b1;clear x0 b1;go_upto_region 2 with(refine bE rfl 41 (.tmp 5) (.tmp 14) rfl I rfl rfl (by rw[j.a];exact Nat.le_refl _) rfl A0 A7 ?_)
 obtain⟨q,hq⟩:=ex o.heap.size;obtain⟨w2,e2,k2,b2,s2⟩:=ax o 41 (X.cells ⟨0,0,0,0,0⟩).toArray q hq;have A1:o.alloc (.cells #[i6 0,i6 0,i6 0,i6 0,i6 0,i6 0,.int .u32 0,i6 0,.int .u32 0,i6 0,.int .u32 0,i6 0,.int .u32 0,i6 0,.int .u32 0,i6 0,.int .u32 0,i6 0,.int .u32 0,i6 0,.int .u32 0,i6 0,.int .u32 0] 41)=w2:=e2;rw[A1,hq];have A2:Below o.heap.size o w2:=hq▸b2;have k3:ak (w2.setCells q 0 I) q 41 _:=k2.setCells I 0 (by rw[j.a];show 0+23<=23;decide);have b3:Below o.heap.size o (w2.setCells q 0 I):=fq A2 (Nat.le_of_eq hq) 0 I;generalize w2.setCells q 0 I=w3 at*;have A3:mS (X.cells ⟨0,0,0,0,0⟩) 0 I=I:=by unfold mS;rw[j.a];show []++I++[]=I;rw[List.append_nil,List.nil_append]
 rw[show mS (X.cells ⟨0,0,0,0,0⟩).toArray.toList 0 I=I from A3]at k3;have y1:w3.cell? (ae q 1)=some (i6 fl.ar):=(k3.cell 1).trans A8.a;have F3:=H.a.below (B1.a.trans (b3.mono B1.a.size));have B3:=jb (B1.a.trans (b3.mono B1.a.size)) F3;have x1:=F3.x1;have x0:=F3.x0;clear e2 A1 k2 b2 s2 A2 k3 b3 A3 hq F3;rw[HD.a]at y1;have HO:=ja (Tb.C6 B3.b.mN 2);go_wp2_with fail
 refine HO.a.mono ?_;rintro e w4 ⟨rfl,b4⟩;have F4:=B3.b.below b4;have x4:=F4.x0;have HR:=jc (tR (l:=[fd]) F4.du m HD.b HD.c (by show 1<39;decide) HD.d HD.e 2 rfl) F4 (B3.a.trans (b4.mono B3.a.size));clear x0 x1 y1 b4 F4;go_wp2_with fail
 refine HR.a.mono ?_;rintro e w5 ⟨c5,rfl,U,A4,A'⟩;obtain⟨f0,A5,A6⟩:=H.a.dir;have F5:=HR.b.move A4 A' (by rw[U]) (by rw[U]) ⟨fd,rfl,by obtain rfl:fd=f0:=Option.some.inj A5;exact A6⟩;have HZ:=jc U F5 ((Step.below HR.c c).trans A');clear U A4 A' A5 A6 F5 x4;go_wp2;go_ret;exact⟨rfl,c5,HZ.a,HZ.b,HZ.c⟩
end
end Co
end Go.Proofs.YtdhgejiacehpbaaGreatDoor
