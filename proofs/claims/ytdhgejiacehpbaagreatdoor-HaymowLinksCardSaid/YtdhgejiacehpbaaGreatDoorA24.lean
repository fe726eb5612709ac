import Derived.Test.YtdhgejiacehpbaaGreatDoorA23
import Derived.Lib.Bytealg
import Derived.Lib.Strings
set_option maxRecDepth 100000
set_option maxHeartbeats 16000000
set_option linter.all false
namespace Go.Proofs.YtdhgejiacehpbaaGreatDoor
open Go.Proofs.Tryz
namespace Co
open Go.RowKit
open Dv (Md D)
section
variable {w w':World} {c:C} {f:Fi} {X:Nat->Prop} {m:Nat}
structure OC (w:World) (c:C) (f:Fi):Prop where
 du:bD w c [f]
 iN:Lays c
 dir:mB f []
 cL:c.cL=[]
 b_:c.b_=[]
 sl:∃sm,sm<4294967296/\c.aF=ImW.ag (m1.set 1 ⟨2,sm,(Im.at_ m1 1).v⟩)
 Mm:∀v∈c.av,v.oneCell'=true
 age:0<=c.age/\c.age<=10
def OD (w:World) (X:Nat->Prop) (e:Ending) (w':World):Prop:=∃c f,e=.returned (.tuple #[pt c.g 0,i6 0])/\OC w' c f/\(∀b,b<w.heap.size->c.own b=0)/\af X w w'
theorem qB (n s:Nat) (h0:1<=s) (h1:s<18): (dW n)[s*2]? =some (i6 0):=by unfold dW;rw[show s*2=(s*2-1)+1 by omega,List.getElem?_cons_succ,List.getElem?_replicate,if_pos om];rfl
def ny (k:Nat):KV:=(List.range k).map λi:Nat=>((i:Int),.agg #[])
def OJ (m fb l1 l2 l3 l4 l5 g ug:Nat) (own:Nat->Nat):C:=
 {k:={m:=pt m 0,g1:=20,g2:=2,g3:=1,g4:=4,cache:=pt fb 0,aY:=l4,maps:=dQ,bad:=l5,used:=List.replicate 8 zi,aU:=.slice (some ⟨ug,0,none⟩) 24 24,nQ:=dW 0,seq:=1,at_:=1,next:=1,chain:=.slice none 0 0,aT:=0}
  g:=g,files:=l1,gone:=l2,aB:=l3,b_:=[],cL:=[],aF:=ImW.ag m1,av:=mF.set 1 (i6 0),tick:=0,age:=0,own:=own}
theorem yR:bY (ny 4):=by unfold bY ny;simp[List.range,List.range.loop]
theorem EB (k:Nat) (hk:k<4):dk (ny k) (k:Int) (.agg #[])=ny (k+1):=by rcases(show k=0\/k=1\/k=2\/k=3 by omega)with rfl|rfl|rfl|rfl<;>rfl
theorem DS (d:D) (hm:Md w X m d) (hd:d.qs=[]) (hXl:∀b,X b->b<w.heap.size) (hXg:∀b,b<=1->¬X b) (hw1:1<w.heap.size) (hH:a7 w) (hR:nW w):
 Calls prog 58 #[pt m 0] w (OD w X):=by
 have HBL:=ja (C5 hm hH hR);have H:=jd hm hd hXl hXg;clear hm hd hXl hXg hH hR;go_enter func58,ntmps58;go_wp2_with fail
 refine HBL.a.mono ?_;rintro e w1 ⟨fb,l1,l2,l3,l4,l5,g,own,rfl,hC1,hb1,ho4,hne,hown,hl4,hl5,b1⟩;have hcc:Calls prog 112 #[pt g 0] w1 (Ls w1 0):=pM hC1 ⟨rfl,rfl,rfl,rfl⟩ 0 0 0 0 0 0 0 0 rfl dc dc dc dc none hb1 (λp hp=>by cases hp) ⟨[],rfl,(λa ha=>by cases ha),List.nodup_nil⟩;have K1:=ji hC1 hb1 ho4 hne hown hl4 hl5 b1 hcc;clear hC1 hb1 ho4 hne hown hl4 hl5 b1 hcc;go_wp2_with fail
 refine K1.i.mono ?_;rintro e w2 ⟨ug,rfl,ku,hug,b2⟩;have hC2:=K1.a.below b2;have c188:w2.cell? (ae g 188)=some (.slice none 0 0):=(hC2.cell 188).trans (o_ hC2.len);have f188:w2.frozen? (ae g 188)=false:=hC2.core.frozen 188;have hur:bw w2 w2.heap.size 2 (.slice (some ⟨ug,0,none⟩) 24 24) ((dW 0).length/2) (dW 0):=bw.more (ku.fe 0 24 24 2 (by rw[qF];decide) lh (by rw[aq];decide)) ku.lt;have hC3:=hC2.Ji hur (λb e=>by obtain rfl:ug=b:=(by injection e);exact⟨K1.a.hi ug hug,ku.lt⟩);obtain⟨w3,hw3⟩:=ex (w2.setCell (ae g 188) (.slice (some ⟨ug,0,none⟩) 24 24));have T23:af (· =g) w2 w3:=hw3▸af.setCell w2 g 188 _;obtain⟨c3,hc3⟩:∃c3:C,{lv m fb l1 l2 l3 l4 l5 g own with k:={(lv m fb l1 l2 l3 l4 l5 g own).k with aU:=.slice (some ⟨ug,0,none⟩) 24 24,nQ:=dW 0}}=c3:=⟨_,rfl⟩;have hC3':bD w3 c3 []:=by rw[<-hc3,<-hw3];exact hC3
 have hg3:c3.g=g:=by rw[<-hc3];rfl
 have hN:Calls prog 61 #[pt g 0,i6 2] w3 (qo w3 c3 [] Im.zero 2):=by rw[<-hg3];exact iF hC3' Im.zero rfl (by rw[<-hc3];rfl) 2 (.inr rfl) dc dc
 have K3:=jg hC3' hc3 hg3 b2 T23 hug hN;clear hC2 hur hC3 hC3' hc3 hg3 hN T23 ku hug b2;go_upto_region 3 with fail
 try rw[hw3]
 clear hw3 c188 f188;go_wp2_with fail
 refine K3.g.mono ?_;rintro e w4 ⟨c4,f4,rfl,hM4,hC4,hS4⟩;rw[show((([]:List Fi).length+1:Nat):Int)=1 from rfl];have hg4:c4.g=g:=by rw[hM4.c'];exact K3.c
 have hLk:Calls prog 38 #[pt g 0,i6 1,i6 2] w4 (ub w4 c4 [f4] 0 f4 2):=by rw[<-hg4];exact gY hC4 0 f4 rfl dc 1 rfl 2 (by rw[hM4.ar];decide) (by rw[hM4.ar];decide) (by rw[hM4.ar];decide) (by rw[hM4.ar];decide)
 have K4:=je hM4 hC4 hS4 hg4 hLk;clear hM4 hC4 hS4 hg4 hLk;go_wp2_with fail
 refine K4.e.mono ?_;rintro e w5 ⟨c5,f5,rfl,hL5,hO5,hC5,hS5⟩;replace hC5:bD w5 c5 [f5]:=hC5;have hg5:c5.g=g:=by obtain⟨o,h⟩:=hO5;rw[h];exact K4.d
 have hst5:ay w5 prog 3 c5.aB (ny 0):=by have h:=hC5.aB;rw[show c5.cL=ny 0 by obtain⟨o,h⟩:=hO5;rw[h,K4.a.c'];show c3.cL=_;rw[<-K3.b];rfl]at h;exact h
 have K5:=je hL5 hO5 hC5 hS5 hg5;have HST:=ja hst5;clear hL5 hO5 hC5 hS5 hg5 hst5;go_wp2;go_loopw [8,31] (λ_ u wr=>∃k:Nat,k<=4/\u=i6 (k:Int)/\ay wr prog 3 c5.aB (ny k)/\af (· =c5.aB) w5 wr) (λ_ u _=>4-(intOf u).toNat)
 case atStart=>exact⟨0,by decide,rfl,HST.a,af.refl _ _⟩
 case round=>
  obtain⟨k,hk,rfl,hm,hT⟩:=hrel;have hC6:=K5.c.oW hT hm;by_cases hk4:k<4
  ·have c168:wr.cell? (ae g 168)=some (.map (some c5.aB)):=(by have h:=(hC6.cell 168).trans (eF hC6.len);rw[show C.g {c5 with cL:=ny k}=g from K5.e]at h;exact h);obtain⟨w7,hst,hm7,ht7⟩:=hm.store az underlying101 (by unfold ny;rw[List.length_map,List.length_range,aq];omega) (k:Int) (cC _ om om) (.agg #[]);rw[EB k hk4]at hm7;have K7:=Lib.hid (⟨hm7,hT.trans (bL ht7) λ_ e=>.inl e⟩:_/\af (· =c5.aB) w5 w7);clear hm hT hC6 hm7 ht7;go_wp2;go_roundw;case rel=>exact⟨k+1,by omega,by go_num,K7.out.1,K7.out.2⟩
   case measure=>exact ms
  ·obtain rfl:k=4:=(by omega);have hL5:=K5.a;have hM4:=K4.a;obtain⟨o5,hO5⟩:=K5.b;have hgm:Im.dV Im.zero ((([]:List Fi).length+1:Nat):Int)=m1:=Hu;have e5:c5=OJ m fb l1 l2 l3 l4 l5 g ug o5:=(by rw[hO5,hM4.c',<-K3.b,hgm];rfl);have hS35:=K4.c.trans K5.d;have o5e:c5.own=o5:=(by rw[e5];rfl);have hob:∀b,b<w3.heap.size->o5 b=own b:=λb hb=>(by have h:=hS35.own b hb;rw[o5e,show c3.own=own by rw[<-K3.b];rfl]at h;exact h);have ho3:c3.own=own:=(by rw[<-K3.b];rfl);have h1s:=K1.h.size;have h2s:=K3.d.size;have h3s:=K3.e.size;have h5s:=hS35.turn.size;have hos:c5.own c5.aB=4:=K5.c.o4;have hgw:w.heap.size<=g:=by
    by_cases h:g<w.heap.size
    ·have:=K1.e g h;have h2:own g=1:=K1.a.o1;omega
    ·omega
   have hbw:Bw w wr:=by
    have t1:af (λb=>w.heap.size<=b) w w3:=((af.aj (X:=λb=>w.heap.size<=b) (K1.h)).trans (af.aj (X:=λb=>w.heap.size<=b) K3.d) λ_ e=>.inl e).trans K3.e λb e=>.inl (by rw[e];exact hgw);have t2:=(t1.trans hS35.turn λb e=>.inr (by
     by_cases h:b<w.heap.size
     ·exact absurd (by rw[ho3];exact K1.e b h) e
     ·omega)).trans hT λb e=>.inr (by
     by_cases h:b<w.heap.size
     ·have h2:=hob b om;rw[<-o5e,show b=c5.aB from e,hos,<-show b=c5.aB from e,K1.e b h]at h2;cases h2
     ·omega)
    exact t2.bm lh λ_ e=>e
   have hl4:=K1.b.lt;have hl5:=K1.a.bad.lt;have h4o:o5 l4=0:=(hob l4 om).trans K1.c;have hMb:ay wr prog 3 l4 []:=(by have m2:=K1.b.ext K3.d;have m3:=K3.e.map m2 (aP m2 (K1.a.below K3.d).core);have m5:=hS35.turn.map m3 (λe=>e (by rw[ho3];exact K1.c));exact hT.map m5 λe=>by rw[show l4=c5.aB from e,<-o5e,hos]at h4o;cases h4o);have hlay:Lays {c5 with cL:=ny 4}:=(by rw[e5];exact⟨rfl,rfl,rfl,rfl,by show(1:Int)<=1;decide,by show(1:Int)<=7;decide,rfl,rfl,qB 0⟩);have hug:l4≠ug:=(by have:=K1.b.lt;have:=K3.f;omega);have hwn:f5.cU=none:=hL5.cU.trans hM4.cU;have hvs:f5.vs=[]:=hL5.vs.trans hM4.vs;have hCM:=zy (c:={c5 with cL:=ny 4}) (m:=m) hC6 hwn hvs (by rw[e5];rfl) hlay (by rw[e5];rfl) (by rw[e5];rfl) (by rw[e5];rfl) (by rw[e5];rfl) (by rw[e5];rfl) (by rw[e5];show(0:Int)<=0/\(0:Int)<=1000;decide) (by rw[e5];show(0:Int)<=0/\(0:Int)<=1000;decide) rfl yR (by rw[e5];rfl) (by rw[e5];rfl) (by rw[e5];exact hMb) (by show c5.own _=0;rw[o5e,e5];exact h4o) (by rw[e5];exact K1.d) (by rw[e5];show 2<=l4;have:=K1.f;omega)
    (λb hb=>by rw[e5]at hb|-;have:ug=b:=(by injection hb);show b≠l4;omega)
    d (H.a.below hbw) H.b (nC.plain hwn hvs (λb hb hl=>by
     have h0:=H.c b hb;show c5.own b=0;rw[o5e,hob b om];exact K1.e b h0) H.d (by rw[e5];intro e;have h5:l5<w.heap.size:=H.c l5 e;have:=K1.g;omega) (λb hb e=>by
     rw[e5]at hb;have:ug=b:=(by injection hb);have:=H.c b e;have:=K3.f;omega)) (λb hb=>Nat.lt_of_lt_of_le (H.c b hb) hbw.size) (by rw[e5];intro e;have h4:l4<w.heap.size:=H.c l4 e;have:=K1.f;omega) (by show c5.own m=0;rw[o5e,hob m (oa H.a.lt)];exact K1.e m H.a.lt) 2 2 1 (by
     unfold Fi.x;rw[hL5.ty,hL5.ar,hL5.bN,hL5.d,hL5.tick];show(⟨f4.ty,f4.ar+2,f4.bN,(f4.d.length:Int),f4.tick⟩:Co.X)=_;rw[hM4.ty,hM4.ar,hM4.bN,hM4.d,hM4.tick,<-K3.b];rfl) dc
   rw[show C.g {c5 with cL:=ny 4}=g from K5.e]at hCM;have hob0:∀b,b<w.heap.size->o5 b=0:=λb hb=>(hob b om).trans (K1.e b hb);have HCM:=je hCM e5 hbw hob0 K1.f;clear hob0 hL5 hM4 hO5 e5 hS35 o5e hob ho3 h1s h2s h3s h5s hos hgw hbw hl4 hl5 h4o hMb hlay hug hwn hvs hCM hC6 hm hT;(go_wp2_with fail);refine HCM.a.mono ?_;rintro e w8 ⟨c8,us,s,p,sm,a0,a1,a2,a3,a4,a5,rfl,hC8,hc8,hpx,hsm,ho8,hT8⟩;have K8:=Lib.hid (⟨hC8,hc8,hpx,hsm,ho8,hT8⟩:_/\_/\_/\_/\_/\_);clear hC8 hc8 hpx hsm ho8 hT8;go_wp2;go_ret2;obtain⟨hC8,hc8,hpx,hsm,ho8,hT8⟩:=K8.out;have e5:=HCM.b;have hcb:∀b,b<w.heap.size->c5.own b=0:=λb hb=>(by rw[e5];exact HCM.d b hb);have hTX:af X w w8:=(af.aj (X:=X) HCM.c).trans hT8 λb e=>by
    by_cases hb:b<w.heap.size
    ·rcases e with e|e|e
     ·exact .inl e
     ·exact absurd (hcb b hb) e
     ·refine absurd hb (by have e:b=c5.k.aY:=e;rw[e5]at e;have e:b=l4:=e;have:=HCM.e;omega)
    ·exact .inr om
   have hg8:c8.g=g:=(by rw[hc8]);refine⟨c8,_,by rw[hg8];rfl,⟨hC8,by rw[hc8,e5];exact⟨rfl,rfl,rfl,rfl,by show(1:Int)<=7;decide,by show(7:Int)<=7;decide,rfl,rfl,qB 5⟩,⟨by show p.x.ty=2;rw[hpx],rfl,(by show 0=Sp.nb 0;decide),by decide⟩,by rw[hc8],by rw[hc8,e5];rfl,⟨sm,hsm,by rw[hc8]⟩,?_,by rw[hc8,e5];show(0:Int)<=0+1/\(0:Int)+1<=10;decide⟩,λb hb=>(ho8 b (Nat.lt_of_lt_of_le hb HCM.c.size)).trans (hcb b hb),hTX⟩;rw[hc8,e5];intro v hv;rcases List.mem_or_eq_of_mem_set (show v∈mF.set 1 (i6 0)from hv)with h|h
   ·rw[List.eq_of_mem_replicate h];rfl
   ·rw[h];rfl
end
end Co
namespace Co
open Go.RowKit
open EtW (bP)
open Et (E)
attribute [local go_sem] Oper.semAt_some
section
variable {w w' w'':World} {c c' c'':C} {fs:List Fi} {f:Fi} {L L':List E}
def tC (w:World) (c:C) (fs:List Fi) (L':List E) (w':World):Prop:=∃c' f',mB f' L'/\(∃own T,c'={c with own:=own,av:=T}/\nj c.av T)/\bD w' c' (fs.set 0 f')/\Step w c w' c'
theorem C9 (f:Sp.F) (b:List UInt8) (h:f.k=Sp.nb f.d.length): (f.cut b.length).write b=⟨b,Sp.nb b.length⟩:=by
 unfold Sp.F.write;split
 ·rename_i hb;subst hb;unfold Sp.F.cut;split
  ·simp[Sp.nb]
  ·rename_i h0;have I:f.d=[]:=List.eq_nil_of_length_eq_zero (by rw[List.length_nil]at h0;omega);rw[h,I];simp[Sp.nb]
 ·rfl
theorem J4 (f:Sp.F) (n:Nat): (f.cut n).k<=f.k:=by
 unfold Sp.F.cut;split
 ·exact Nat.min_le_left _ _
 ·exact Nat.le_refl _
def AN (w:World) (c:C) (fn:Nat) (cp:Value) (L L':List E) (er:Int):Prop:=
 ∀(x:World) (v:Value),bP x x.heap.size v L->(∀b,b<w.heap.size->c.own b=0->x.heap[b]? =w.heap[b]?)->
  Calls prog fn #[v,cp] x λe x'=>∃u,e=.returned (.tuple #[u,i6 er])/\bP x' x'.heap.size u L'/\Bw x x'
theorem yo (h:bD w c fs) (hf:fs[0]? =some f) (hD:mB f L) (fn:Nat) (cp:Value) (er:Int) (he:er≠0) (hcf:∀args x,(callFunc fn args).run prog x=.ok (.enter fn args) x) (hM:AN w c fn cp L L' er):
 Calls prog 87 #[pt c.g 0,i6 1,.func (.func fn) #[] #[cp]] w λe w'=>e=.returned (i6 er)/\Seen w c fs w':=by
 have H:=ja h;have o:=ja hf;have HD:=ja hD;have HM:=ja hM;clear h hf hD hM;have hz: (er != 0)=true:=bne_iff_ne.2 he;go_enter func87,ntmps87;go_wp2_with fail
 refine(oP H.a o.a HD.a).mono ?_;rintro e w1 ⟨u,rfl,J,R⟩;obtain⟨A,k,rfl,_⟩:=J.open_;have HE:=ja J;have U:=ja R;clear J R;go_wp2_with fail
 refine(HM.a w1 _ HE.a λb hb h0=>U.a.own hb h0).mono ?_;rintro e w2 ⟨u2,rfl,I,j⟩;obtain⟨A2,k2,rfl,_⟩:=I.open_;have HY:=ja (U.a.below j);clear I j;go_wp2;go_ret;exact⟨rfl,HY.a⟩
theorem nh (h:bD w c fs) (hf:fs[0]? =some f) (hD:mB f L) (fn:Nat) (cp:Value) (hm:Et.aV L'=true) (hcf:∀args x,(callFunc fn args).run prog x=.ok (.enter fn args) x) (hM:AN w c fn cp L L' 0):
 Calls prog 87 #[pt c.g 0,i6 1,.func (.func fn) #[] #[cp]] w λe w'=>e=.returned (i6 0)/\tC w c fs L' w':=by
 have H:=ja h;have HF:=ja hf;have R:=ja hD;have HM:=ja hM;clear h hf hD hM;go_enter func87,ntmps87;go_wp2_with fail
 refine(oP H.a HF.a R.a).mono ?_;rintro e w1 ⟨u,rfl,hE,hX⟩;obtain⟨A,k,rfl,_⟩:=hE.open_;have HE:=ja hE;have HX:=ja hX;clear hE hX;go_wp2_with fail
 refine(HM.a w1 _ HE.a λb hb h0=>HX.a.own hb h0).mono ?_;rintro e w2 ⟨u2,rfl,U,b2⟩;obtain⟨A2,k2,rfl,_⟩:=U.open_;have Aw:=ja U;have HY:=ja (HX.a.below b2);clear U b2;go_wp2_with fail
 refine(EtW.II _ L' w2 Aw.a (j8 hm) hm).mono ?_;rintro e w3 ⟨u3,rfl,⟨j,A6⟩,b3⟩;obtain⟨A3,k3,rfl,_⟩:=j.open_;have hlen:=mi hm;have HZ:=ja (HY.a.below b3);have o:=ja j;have A':=ja (show∀b,(Value.slice A3 (Et.enc L').length k3).ownBlock=some b->w2.heap.size<=b/\b<w3.heap.size from A6);have Ax:=ja (show w.heap.size<=w2.heap.size from HY.a.size);obtain⟨b,hb⟩:=ex (Et.enc L');have B':=ja hb;rw[hb]at hlen o A'|-;clear j A6 b3 hb;obtain⟨n,hn⟩:∃n:Nat,b.length=n:=⟨_,rfl⟩;rw[hn]at o A' hlen|-;have HN:=ja hn;clear hn;obtain⟨c1,⟨T1,A0,A7⟩,A8,A9⟩:=HZ.a.step;have AI:=ja A0;have B0:=ja A7;have B1:=ja A8;have B2:=ja A9;have hg:c.g=c1.g:=by rw[A0]
 rw[hg];clear A0 A8 A9 A7;go_wp2_with fail
 refine(iD B1.a 0 f HF.a dc 1 rfl R.a.v (oa R.a.len) n om).mono ?_;rintro e w4 ⟨c2,f2,rfl,AR,Aa,⟨B6,A1⟩,Ab,Ad⟩;have Ae:c1.g=c2.g:=by rw[A1]
 rw[Ae];have B3:=ja A1;have Ah:=ja Ab;have J:=ja Ad;have Ao:=ja Aa;have Aq:=ja AR;clear hg Ae A1 Ab Ad Aa AR;have HI:=ja (show(fs.set 0 f2)[0]? =some f2 by rw[List.getElem?_set_self (List.getElem?_eq_some_iff.1 HF.a).1]);have B4:=ja (show Bs w4 w4.heap.size (.slice A3 n k3) b from af.bs J.a.turn o.a (λg hg e=>e (by rw[AI.a];exact H.a.hi g (Nat.le_trans Ax.a (A'.a g hg).1))));have Ar:=ja (show f2.d=((Sp.F.mk f.d f.vs.length).cut n).d from Ao.a.d);go_wp2_with fail
 have hw:=fV Ah.a 0 f2 HI.a dc 1 rfl (by rw[Aq.a];have:=J4 ⟨f.d,f.vs.length⟩ n;have h3:=R.a.v;have h4:=R.a.len;unfold Sp.nb at h3;simp only at this;omega) (.slice A3 n k3) b B4.a (by rw[HN.a];omega) (by rw[Ar.a,Sp.sJ,HN.a];exact Nat.le_refl _);refine hw.mono ?_;rintro e w5 ⟨c3,f3,rfl,A4,I,⟨As,Au⟩,A5,Av⟩;have B5:=ja (show tC w c fs L' w5 by
  have hF: (Sp.F.mk f2.d f2.vs.length).write b=⟨b,Sp.nb b.length⟩:=(by have h1:Sp.F.mk f2.d f2.vs.length=(Sp.F.mk f.d f.vs.length).cut n:=(by rw[Ar.a,Aq.a]);rw[h1,<-HN.a];exact C9 _ b R.a.v);rw[hF]at A4 I;refine⟨c3,f3,⟨?_,?_,?_,hm⟩,⟨As,_,by rw[Au,B3.a,AI.a],(B0.a.trans (nj.set T1 1 c1.tick)).trans (nj.set _ 1 c2.tick)⟩,?_,(B2.a.trans J.a).trans Av⟩
  ·exact I.ty.trans (Ao.a.ty.trans R.a.ty)
  ·exact I.d.trans B'.a.symm
  ·rw[A4,show f3.d=b from I.d]
  ·rw[List.set_set]at A5;exact A5)
 clear A4 I Au A5 Av hw;go_wp2;go_ret;exact⟨rfl,B5.a⟩
end
end Co
namespace Co
open Go.RowKit
open EtW (bP dx)
open Et (E)
attribute [local go_sem] Oper.semAt_some
section
variable {w w' w'':World} {c c' c'':C} {fs:List Fi} {f:Fi} {L L':List E}
theorem Fo:∀args x,(callFunc 88 args).run prog x=.ok (.enter 88 args) x:=λargs x=>by have h:=func88;go_simp
theorem I':∀args x,(callFunc 145 args).run prog x=.ok (.enter 145 args) x:=λargs x=>by have h:=func145;go_simp
theorem tC.behind {w0:World} (hb:Bw w0 w) (h:tC w c fs L' w'):tC w0 c fs L' w':=by obtain⟨c',I,J,R,U,j⟩:=h;exact⟨c',I,J,R,U,(Step.below hb c).trans j⟩
theorem DZ (y:E) (hy:y.n.length<=100000) (g:Nat) (hm:Et.aV L=true) (x:World) (v:Value) (hE:bP x x.heap.size v L) (hg:ak x g 70 [.string ⟨y.n.toArray⟩,i6 y.i,i6 y.t]):
 Calls prog 88 #[v,pt g 0] x λe x'=>∃u,e=.returned (.tuple #[u,i6 (Et.fK L y)])/\bP x' x'.heap.size u (Et.eQ L y)/\Bw x x':=by
 obtain⟨J,R,U⟩:=y;have o:=hg.cell 0;have c1:=hg.cell 1;have c2:=hg.cell 2;have HC:=ja (EtW.tf v L J R U x hE (j8 hm) (by show J.length<_;simp only at hy;omega));clear hg hE hm;generalize Et.fK L ⟨J,R,U⟩=er at*;simp only at o c1 c2;go_enter func88,ntmps88;go_wp2_with fail
 refine HC.a.mono ?_;rintro e x1 ⟨u,rfl,I,j⟩;obtain⟨A2,k2,rfl,_⟩:=I.open_;have HX:=Lib.hid (⟨I,j⟩:_/\_);clear I j;go_wp2;go_ret2;exact⟨_,rfl,HX.out⟩
theorem Cm (nm:List UInt8) (hy:nm.length<=100000) (g:Nat) (hm:Et.aV L=true) (x:World) (v:Value) (hE:bP x x.heap.size v L) (hg:ak x g 9 [.string ⟨nm.toArray⟩]):
 Calls prog 145 #[v,pt g 0] x λe x'=>∃u,e=.returned (.tuple #[u,i6 (Et.bj L nm)])/\bP x' x'.heap.size u (Et.cT L nm)/\Bw x x':=by
 have j:=hg.cell 0;have R:=ja (EtW.EG v L nm x hE (j8 hm) om);clear hg hE hm;generalize Et.bj L nm=er at*;go_enter func145,ntmps145;go_wp2_with fail
 refine R.a.mono ?_;rintro e x1 ⟨u,rfl,I,J⟩;obtain⟨o,k2,rfl,_⟩:=I.open_;have U:=Lib.hid (⟨I,J⟩:_/\_);clear I J;go_wp2;go_ret2;exact⟨_,rfl,U.out⟩
def FI (w:World) (c:C) (fs:List Fi) (L':List E) (er:Int) (e:Ending) (w':World):Prop:=e=.returned (i6 er)/\(er≠0->Seen w c fs w')/\(er=0->tC w c fs L' w')
theorem uH (h:bD w c fs) (hf:fs[0]? =some f) (hD:mB f L) (y:E) (hy:y.n.length<=100000):
 Calls prog 39 #[pt c.g 0,i6 1,dx y] w (FI w c fs (Et.eQ L y) (Et.fK L y)):=by
 have H:=ja h;have HF:=ja hf;have j:=ja hD;clear h hf hD;unfold dx;go_enter func39,ntmps39;go_upto_region 1 with fail
 generalize o:w.alloc (.cells _ 70)=w0;have k4:ak w0 w.heap.size 70 [.string ⟨y.n.toArray⟩,i6 y.i,i6 y.t]:=by rw[<-o];exact ak.new w _ _
 have b0:Bw w w0:=by rw[<-o];exact bh.alloc lh _
 clear o;obtain⟨g,hg⟩:=ex w.heap.size;rw[hg]at k4|-;have HO:=ja (show c.own g=0 from H.a.hi g om);have K:=ja k4;have B:=ja b0;clear k4 b0 hg;obtain⟨er,I⟩:=ex (Et.fK L y);have HM:AN w0 c 88 (pt g 0) L (Et.eQ L y) er:=λx v hE hb=>by have:=DZ y hy g j.a.may x v hE ((hb g K.a.lt HO.a).trans K.a);rwa [I]at this
 have J:=ja HM;have HE:=ja I;clear HM;rw[I];clear I;rcases Decidable.em (er=0)with U|U
 ·subst U;have A':=ja (Et.zJ HE.a);(go_wp2_with fail);refine(nh (H.a.below B.a) HF.a j.a _ _ A'.a Fo J.a).mono ?_;rintro e w2 ⟨rfl,R⟩;have HX:=ja (tC.behind B.a R);clear R;go_wp2;go_ret;show FI _ _ _ _ (Et.fK L y) _ _;rw[HE.a];exact⟨rfl,λh=>absurd rfl h,λ_=>HX.a⟩
 ·have H0:=ja U;clear U;(go_wp2_with fail);refine(yo (H.a.below B.a) HF.a j.a _ _ er H0.a Fo J.a).mono ?_;rintro e w2 ⟨rfl,R⟩;have HX:=ja (Seen.behind B.a R);clear R;go_wp2;go_ret;show FI _ _ _ _ (Et.fK L y) _ _;rw[HE.a];exact⟨rfl,λ_=>HX.a,λh=>absurd h H0.a⟩
theorem Bz (h:bD w c fs) (hf:fs[0]? =some f) (hD:mB f L) (nm:List UInt8) (hy:nm.length<=100000) (h0:Et.bj L nm=0):
 Calls prog 91 #[pt c.g 0,i6 1,.string ⟨nm.toArray⟩] w λe w'=>e=.returned (i6 0)/\tC w c fs (Et.cT L nm) w':=by
 have H:=ja h;have HF:=ja hf;have j:=ja hD;have o:=ja h0;clear h hf hD h0;obtain⟨S,hS⟩:=ex (⟨nm.toArray⟩:ByteArray);rw[hS];have HS:=ja hS;clear hS;go_enter func91,ntmps91;go_upto_region 1 with fail
 generalize I:w.alloc (.cells _ 9)=w0;have J:ak w0 w.heap.size 9 [.string S]:=by rw[<-I];exact ak.new w _ _
 have b0:Bw w w0:=by rw[<-I];exact bh.alloc lh _
 clear I;obtain⟨g,hg⟩:=ex w.heap.size;rw[hg]at J|-;have HO:=ja (show c.own g=0 from H.a.hi g om);have K:=ja J;have B:=ja b0;clear J b0 hg;have HM:AN w0 c 145 (pt g 0) L (Et.cT L nm) 0:=λx v hE hb=>by have:=Cm nm hy g j.a.may x v hE ((hb g K.a.lt HO.a).trans (by rw[HS.a];exact K.a));rwa [o.a]at this
 have R:=ja HM;have U:=ja (Et.wm o.a);clear HM;go_wp2_with fail
 refine(nh (H.a.below B.a) HF.a j.a _ _ U.a I' R.a).mono ?_;rintro e w2 ⟨rfl,hX⟩;have HX:=ja (tC.behind B.a hX);clear hX;go_wp2;go_ret;exact⟨rfl,HX.a⟩
def Ju (w:World) (c:C) (fs:List Fi) (y:E) (er:Int) (e:Ending) (w':World):Prop:=e=.returned (.tuple #[dx y,i6 er])/\Seen w c fs w'
theorem BX (h:bD w c fs) (A:Option Addr) (k:Nat):
 Calls prog 63 #[pt c.g 0,.slice A 0 k] w λe w'=>e=.returned (.tuple #[dx ⟨[],1,2⟩,i6 0])/\Bw w w':=by
 clear h;go_enter func63,ntmps63;go_upto_region 2 with fail
 obtain⟨g,J⟩:=ex w.heap.size;have k0:=(ak.new w 70 #[.string ⟨#[]⟩,i6 0,i6 0]).alloc (.cells #[.string ⟨#[]⟩,i6 1,i6 2] 70);have k1:=ak.new (w.alloc (.cells #[.string ⟨#[]⟩,i6 0,i6 0] 70)) 70 #[.string ⟨#[]⟩,i6 1,i6 2];have R:=((Below.refl w.heap.size w).alloc lh (.cells #[.string ⟨#[]⟩,i6 0,i6 0] 70)).alloc sj (.cells #[.string ⟨#[]⟩,i6 1,i6 2] 70);rw[World.size_alloc]at k1;generalize(w.alloc (.cells #[.string ⟨#[]⟩,i6 0,i6 0] 70)).alloc (.cells #[.string ⟨#[]⟩,i6 1,i6 2] 70)=w0 at*;have U:=ja R;have I:=ja (show w.heap.size<=g by omega);rw[J]at k0 k1|-;have j:=ja k0;have c0:=k0.cell 0;have c1:=k0.cell 1;have c2:=k0.cell 2;have d0:=k1.cell 0;have d1:=k1.cell 1;have d2:=k1.cell 2;have f0:=k0.frozen;clear R J k0 k1;go_wp2;go_loopw [8,9,10,14] (λ_ _ _ u wr=>u=i6 0/\w0=wr) (λ_ _ _ _ _=>0)
 case atStart=>exact⟨rfl,rfl⟩
 case round=>obtain⟨rfl,rfl⟩:=hrel;go_wp2;have z4:=((j.a.aC 0 (.string ⟨#[]⟩)).aC 1 (i6 1)).aC 2 (i6 2);have o:=((U.a.setCell (p:=ae g 0) I.a (.string ⟨#[]⟩)).setCell (p:=ae g 1) I.a (i6 1)).setCell (p:=ae g 2) I.a (i6 2);refine bodyPost_ret (v:=.tuple #[dx ⟨[],1,2⟩,i6 0]) (bG [.string ⟨#[]⟩,i6 1,i6 2] _ results63 rfl z4.range underlying70 rfl kj rfl) rfl ?_;exact⟨rfl,o⟩
theorem Bj (h:bD w c fs) (hL:Lays c) (hf:fs[0]? =some f) (hD:mB f L) (nm:List UInt8) (hn:nm.length<=100000) (hz:Et.bj L nm=0) (b o k:Nat) (hb:w.cell? (ae b o)=some (.string ⟨nm.toArray⟩)):
 Calls prog 63 #[pt c.g 0,.slice (some ⟨b,o,none⟩) 1 k] w (Ju w c fs (Et.dN L nm) 0):=by
 have H:=ja h;have HL:=ja hL;have HF:=ja hf;have HD:=ja hD;have HZ:=ja hz;have R:=World.block_lt_of_cell? _ _ hb;clear h hf hD hL hz;obtain⟨S,hS⟩:=ex (⟨nm.toArray⟩:ByteArray);rw[hS]at hb;have HS:=ja hS;clear hS;obtain⟨y,hy⟩:=ex (Et.dN L nm);have HY:=ja hy;rw[hy];clear hy;go_enter func63,ntmps63;go_upto_region 2 with fail
 obtain⟨g,hg⟩:=ex w.heap.size;have k0:=(ak.new w 70 #[.string ⟨#[]⟩,i6 0,i6 0]).alloc (.cells #[.string ⟨#[]⟩,i6 1,i6 2] 70);have k1:=ak.new (w.alloc (.cells #[.string ⟨#[]⟩,i6 0,i6 0] 70)) 70 #[.string ⟨#[]⟩,i6 1,i6 2];have b0:=((Below.refl w.heap.size w).alloc lh (.cells #[.string ⟨#[]⟩,i6 0,i6 0] 70)).alloc sj (.cells #[.string ⟨#[]⟩,i6 1,i6 2] 70);rw[World.size_alloc]at k1;generalize(w.alloc (.cells #[.string ⟨#[]⟩,i6 0,i6 0] 70)).alloc (.cells #[.string ⟨#[]⟩,i6 1,i6 2] 70)=w0 at*;have U:w0.cell? (ae b o)=some (.string S):=cl b0 R hb;have B0:=ja b0;have HG:=ja (show w.heap.size<=g by omega);rw[hg]at k0 k1|-;have K0:=ja k0;have K1:=ja k1;have HO:=ja (show c.own g=0/\c.own (g+1)=0 from⟨H.a.hi g om,H.a.hi (g+1) om⟩);clear b0 hg k0 k1 hb R;go_wp2;go_loopw [8,9,10,14] (λ_ _ _ u wr=>(u=i6 0/\w0=wr)\/(u=i6 1/\Seen w c fs wr/\ak wr g 70 [.string ⟨#[]⟩,i6 0,i6 0]/\ak wr (g+1) 70 [.string ⟨y.n.toArray⟩,i6 y.i,i6 y.t])) (λ_ _ _ u _=>2-(RowKit.intOf u).toNat)
 case atStart=>exact .inl ⟨rfl,rfl⟩
 case round=>
  rcases hrel with⟨rfl,rfl⟩|⟨rfl,j,k0,k1⟩
  ·have d1:=K1.a.cell 1;(go_wp2_with fail);rw[<-HS.a];refine(mE (H.a.below B0.a) HL.a HF.a HD.a nm hn).mono ?_;rintro e J ⟨rfl,j⟩;rw[HY.a,HZ.a];unfold dx;have HX:=ja j;have K2:=ja (show ak J g _ _ from(HX.a.own K0.a.lt HO.a.1).trans K0.a);have K3:=ja (show ak J (g+1) _ _ from(HX.a.own K1.a.lt HO.a.2).trans K1.a);clear j d1 U;(go_upto_region 6 with fail);have kq:=ak.new J 70 #[.string ⟨y.n.toArray⟩,i6 y.i,i6 y.t];have bq:=(Below.refl J.heap.size J).alloc lh (.cells #[.string ⟨y.n.toArray⟩,i6 y.i,i6 y.t] 70);generalize J.alloc (.cells #[.string ⟨y.n.toArray⟩,i6 y.i,i6 y.t] 70)=w2 at*;have A':=ja (K2.a.ext bq);have I:=ja (K3.a.ext bq);have A0:=ja ((HX.a.below bq).behind B0.a);have q0:=kq.cell 0;have q1:=kq.cell 1;have q2:=kq.cell 2;have e0:=I.a.cell 0;have e1:=I.a.cell 1;have e2:=I.a.cell 2;have f0:=I.a.frozen;clear kq bq;go_wp2;have z4:=((I.a.aC 0 (.string ⟨y.n.toArray⟩)).aC 1 (i6 y.i)).aC 2 (i6 y.t);have z5:=((A'.a.cf (p:=ae (g+1) 0) sj (.string ⟨y.n.toArray⟩)).cf (p:=ae (g+1) 1) sj (i6 y.i)).cf (p:=ae (g+1) 2) sj (i6 y.t);have tz:=((af.setCell w2 (g+1) 0 (.string ⟨y.n.toArray⟩)).trans (af.setCell _ (g+1) 1 (i6 y.i)) (λ_ e=>.inl e)).trans (af.setCell _ (g+1) 2 (i6 y.t)) (λ_ e=>.inl e);go_roundw;case rel=>exact .inr ⟨rfl,A0.a.store tz (Nat.le_succ_of_le HG.a) HO.a.2 I.a (Small.of dc rfl) dc HL.a,z5,z4⟩
   case measure=>simp[RowKit.intOf]
  ·have HX:=ja j;have K2:=ja k0;have q0:=k1.cell 0;have q1:=k1.cell 1;have q2:=k1.cell 2;have e0:=k0.cell 0;have e1:=k0.cell 1;have e2:=k0.cell 2;have f0:=k0.frozen;clear j k0 k1 U;go_wp2;have z4:=((K2.a.aC 0 (.string ⟨y.n.toArray⟩)).aC 1 (i6 y.i)).aC 2 (i6 y.t);have tz:=((af.setCell wr g 0 (.string ⟨y.n.toArray⟩)).trans (af.setCell _ g 1 (i6 y.i)) (λ_ e=>.inl e)).trans (af.setCell _ g 2 (i6 y.t)) (λ_ e=>.inl e);refine bodyPost_ret (v:=.tuple #[dx y,i6 0]) (bG [.string ⟨y.n.toArray⟩,i6 y.i,i6 y.t] _ results63 rfl z4.range underlying70 rfl kj rfl) rfl ?_;exact⟨rfl,HX.a.store tz HG.a HO.a.1 K2.a (Small.of dc rfl) dc HL.a⟩
end
end Co
namespace Tb
open Go.RowKit
attribute [local go_sem] Oper.semAt_some
def tM (m p:Int):Value:=.agg #[i6 2,i6 m,i6 p]
def qO:Option (Int×Int)->Value
 |none=>.nilIface
 |some (m,p)=>.iface 145 (tM m p)
def eP (o:Option (Int×Int)):List Value:=[qO o,.nilIface,.nilIface,.nilIface,.nilIface,.nilIface,.nilIface,.nilIface]
theorem small (o:Option (Int×Int)):Co.Small (eP o):=by
 refine⟨Nat.le_refl _,λu hu z e=>?_⟩;subst e;unfold eP at hu;cases o with
 |none=>simp[qO]at hu
 |some x=>simp[qO]at hu
theorem LP (w:World): (Instr.typeAssert .nilIface 20 145 true).run prog w=.ok (.tuple #[.agg #[i6 0,i6 0,i6 0],.bool false]) w:=by kernel_rfl
theorem GI (w:World): (Instr.typeAssert .nilIface 20 143 true).run prog w=.ok (.tuple #[.agg #[i6 0],.bool false]) w:=by kernel_rfl
theorem AL (v:Value) (w:World): (Instr.typeAssert (.iface 145 v) 20 145 true).run prog w=.ok (.tuple #[v,.bool true]) w:=by kernel_rfl
theorem AV (v:Value) (w:World): (Instr.makeInterface 145 v).run prog w=.ok (.iface 145 v) w:=by kernel_rfl
variable {w w':World} {t:Nat}
theorem uZ (w:World):Calls prog 64 #[.nilIface] w λe w'=>e=.returned (.tuple #[.agg #[i6 0,i6 0,i6 0],.bool false])/\Bw w w':=by
 go_enter func64,ntmps64;go_upto_region 1 with fail
 generalize J:w.alloc (.cells _ 76)=w0;have I:ak w0 w.heap.size 76 [i6 0,i6 0,i6 0]:=by rw[<-J];exact ak.new w _ _
 have U:Bw w w0:=by rw[<-J];exact bh.alloc lh _
 clear J;obtain⟨g,j⟩:=ex w.heap.size;have R:=ja (show w.heap.size<=g by omega);rw[j]at I|-;have c0:=I.cell 0;have c1:=I.cell 1;have c2:=I.cell 2;have f0:=I.frozen;have K:=ja I;have B:=ja U;clear j I U;have h1:=LP;have h2:=GI;go_wp2;have z4:=((K.a.aC 0 (i6 0)).aC 1 (i6 0)).aC 2 (i6 0);have o:=((B.a.setCell (p:=ae g 0) R.a (i6 0)).setCell (p:=ae g 1) R.a (i6 0)).setCell (p:=ae g 2) R.a (i6 0);refine bodyPost_ret (v:=.tuple #[.agg #[i6 0,i6 0,i6 0],.bool false]) (bG [i6 0,i6 0,i6 0] _ results64 rfl z4.range underlying76 rfl kj rfl) rfl ?_;exact⟨rfl,o⟩
theorem Cp (m p:Int) (w:World):Calls prog 64 #[.iface 145 (tM m p)] w λe w'=>e=.returned (.tuple #[tM m p,.bool true])/\Bw w w':=by
 unfold tM;go_enter func64,ntmps64;go_upto_region 1 with fail
 generalize U:w.alloc (.cells _ 76)=w0;have j:ak w0 w.heap.size 76 [i6 0,i6 0,i6 0]:=by rw[<-U];exact ak.new w _ _
 have b0:Bw w w0:=by rw[<-U];exact bh.alloc lh _
 clear U;obtain⟨g,hg⟩:=ex w.heap.size;have o:=ja (show w.heap.size<=g by omega);rw[hg]at j|-;have K:=ja j;have B:=ja b0;clear hg j b0;have h1:=AL;go_upto_region 4 with fail
 have I:=ak.new w0 145 #[i6 2,i6 m,i6 p];have J:=(Below.refl w0.heap.size w0).alloc lh (.cells #[i6 2,i6 m,i6 p] 145);generalize w0.alloc (.cells #[i6 2,i6 m,i6 p] 145)=w1 at*;have R:=K.a.ext J;have B1:=B.a.trans (J.mono B.a.size);have q0:=I.cell 0;have q1:=I.cell 1;have q2:=I.cell 2;have c0:=R.cell 0;have c1:=R.cell 1;have c2:=R.cell 2;have f0:=R.frozen;have K2:=ja R;have B2:=ja B1;clear I J R B1 h1;go_wp2;have z4:=((K2.a.aC 0 (i6 2)).aC 1 (i6 m)).aC 2 (i6 p);have bz:=((B2.a.setCell (p:=ae g 0) o.a (i6 2)).setCell (p:=ae g 1) o.a (i6 m)).setCell (p:=ae g 2) o.a (i6 p);refine bodyPost_ret (v:=.tuple #[.agg #[i6 2,i6 m,i6 p],.bool true]) (bG [i6 2,i6 m,i6 p] _ results64 rfl z4.range underlying76 rfl kj rfl) rfl ?_;exact⟨rfl,bz⟩
theorem vi (m:Int) (hm:m=1\/m=2) (w:World):Calls prog 22 #[i6 m] w λe w'=>e=.returned (.bool true)/\w'=w:=by
 rcases hm with rfl|rfl
 ·go_enter func22,ntmps22;go_wp2;go_ret;exact⟨rfl,rfl⟩
 ·go_enter func22,ntmps22;go_wp2;go_ret;exact⟨rfl,rfl⟩
theorem lT {m p:Int} (h:ak w t 139 (eP (some (m,p)))):Calls prog 31 #[pt t 0,i6 0] w λe w'=>e=.returned (.tuple #[tM m p,i6 0])/\Bw w w':=by
 have HT:=ja h;clear h;go_enter func31,ntmps31;go_upto_region 1 with fail
 generalize j:w.alloc (.cells _ 76)=w0;have o:ak w0 w.heap.size 76 [i6 0,i6 0,i6 0]:=by rw[<-j];exact ak.new w _ _
 have b0:Bw w w0:=by rw[<-j];exact bh.alloc lh _
 clear j;obtain⟨g,hg⟩:=ex w.heap.size;have HG:=ja (show w.heap.size<=g by omega);rw[hg]at o|-;have K:=ja o;have B:=ja b0;clear hg o b0;have x0:w0.cell? (ae t 0)=some (.iface 145 (tM m p)):=(HT.a.ext B.a).cell 0;go_wp2_with fail
 refine(Cp m p w0).mono ?_;rintro e U ⟨rfl,b1⟩;have K1:=ja (K.a.ext b1);have B1:=ja (B.a.trans (b1.mono B.a.size));clear x0 b1;unfold tM;go_upto_region 4 with fail
 have I:=ak.new U 76 #[i6 2,i6 m,i6 p];have J:=(Below.refl U.heap.size U).alloc lh (.cells #[i6 2,i6 m,i6 p] 76);generalize U.alloc (.cells #[i6 2,i6 m,i6 p] 76)=w2 at*;have R:=K1.a.ext J;have B2:=B1.a.trans (J.mono B1.a.size);have q0:=I.cell 0;have q1:=I.cell 1;have q2:=I.cell 2;have c0:=R.cell 0;have c1:=R.cell 1;have c2:=R.cell 2;have f0:=R.frozen;have K3:=ja R;have B3:=ja B2;clear I J R B2;go_wp2;have z4:=((K3.a.aC 0 (i6 2)).aC 1 (i6 m)).aC 2 (i6 p);have bz:=((B3.a.setCell (p:=ae g 0) HG.a (i6 2)).setCell (p:=ae g 1) HG.a (i6 m)).setCell (p:=ae g 2) HG.a (i6 p);refine bodyPost_ret (v:=.tuple #[.agg #[i6 2,i6 m,i6 p],i6 0]) (bG [i6 2,i6 m,i6 p] _ results31 rfl z4.range underlying76 rfl kj rfl) rfl ?_;exact⟨rfl,bz⟩
theorem oA {m p:Int} (h:ak w t 139 (eP (some (m,p)))):Calls prog 68 #[pt t 0,i6 0] w λe w'=>e=.returned (.tuple #[tM m p,i6 0])/\Bw w w':=by
 have HT:=ja h;clear h;go_enter func68,ntmps68;go_upto_region 1 with fail
 generalize o:w.alloc (.cells _ 145)=w0;have k4:ak w0 w.heap.size 145 [i6 0,i6 0,i6 0]:=by rw[<-o];exact ak.new w _ _
 have b0:Bw w w0:=by rw[<-o];exact bh.alloc lh _
 clear o;obtain⟨g,hg⟩:=ex w.heap.size;have HG:=ja (show w.heap.size<=g by omega);rw[hg]at k4|-;have K:=ja k4;have B:=ja b0;clear hg k4 b0;go_wp2_with fail
 refine(lT (HT.a.ext B.a)).mono ?_;rintro e j ⟨rfl,b1⟩;have K1:=ja (K.a.ext b1);have B1:=ja (B.a.trans (b1.mono B.a.size));clear b1;unfold tM;go_upto_region 2 with fail
 have A':=ak.new j 76 #[i6 2,i6 m,i6 p];have J:=(Below.refl j.heap.size j).alloc lh (.cells #[i6 2,i6 m,i6 p] 76);generalize j.alloc (.cells #[i6 2,i6 m,i6 p] 76)=w2 at*;have B2:=ja (B1.a.trans (J.mono B1.a.size));have K2:=ja (K1.a.ext J);have x0:w2.cell? (ae t 0)=some (.iface 145 (.agg #[i6 2,i6 m,i6 p])):=(HT.a.ext B2.a).cell 0;have h1:=AL;clear A' J;go_upto_region 5 with fail
 have I:=ak.new w2 145 #[i6 2,i6 m,i6 p];have R:=(Below.refl w2.heap.size w2).alloc lh (.cells #[i6 2,i6 m,i6 p] 145);generalize w2.alloc (.cells #[i6 2,i6 m,i6 p] 145)=w3 at*;have U:=K2.a.ext R;have B3:=B2.a.trans (R.mono B2.a.size);have q0:=I.cell 0;have q1:=I.cell 1;have q2:=I.cell 2;have c0:=U.cell 0;have c1:=U.cell 1;have c2:=U.cell 2;have f0:=U.frozen;have K4:=ja U;have B4:=ja B3;clear I R U B3 x0 h1;go_wp2;have z4:=((K4.a.aC 0 (i6 2)).aC 1 (i6 m)).aC 2 (i6 p);have bz:=((B4.a.setCell (p:=ae g 0) HG.a (i6 2)).setCell (p:=ae g 1) HG.a (i6 m)).setCell (p:=ae g 2) HG.a (i6 p);refine bodyPost_ret (v:=.tuple #[.agg #[i6 2,i6 m,i6 p],i6 0]) (bG [i6 2,i6 m,i6 p] _ results68 rfl z4.range underlying145 rfl kj rfl) rfl ?_;exact⟨rfl,bz⟩
theorem rm {m p:Int} (h:ak w t 139 (eP (some (m,p)))) (hm:m=1\/m=2):Calls prog 27 #[pt t 0,i6 0,i6 m] w λe w'=>e=.returned (.tuple #[tM m p,i6 0])/\Bw w w':=by
 have HT:=ja h;clear h;have h1:¬(m≠1/\m≠2):=by omega
 have HM:Hid (∀(a:Int),a=m->(a=1\/a=2)):=Lib.hid (λa e=>e▸hm);go_enter func27,ntmps27;go_upto_region 1 with fail
 generalize hW:w.alloc (.cells _ 76)=w0;have k4:ak w0 w.heap.size 76 [i6 0,i6 0,i6 0]:=by rw[<-hW];exact ak.new w _ _
 have b0:Bw w w0:=by rw[<-hW];exact bh.alloc lh _
 clear hW;obtain⟨g,hg⟩:=ex w.heap.size;have HG:=ja (show w.heap.size<=g by omega);rw[hg]at k4|-;have K:=ja k4;have B:=ja b0;clear hg k4 b0;rcases hm with rfl|rfl
 ·(go_wp2_with fail);refine(oA (HT.a.ext B.a)).mono ?_;rintro e U ⟨rfl,j⟩;have K1:=ja (K.a.ext j);have B1:=ja (B.a.trans (j.mono B.a.size));clear j;unfold tM;(go_upto_region 4 with fail);have I:=ak.new U 145 #[i6 2,i6 1,i6 p];have J:=(Below.refl U.heap.size U).alloc lh (.cells #[i6 2,i6 1,i6 p] 145);generalize U.alloc (.cells #[i6 2,i6 1,i6 p] 145)=w2 at*;have o:=ja (B1.a.trans (J.mono B1.a.size));have K2:=ja (K1.a.ext J);have q0:=I.cell 0;have q1:=I.cell 1;have q2:=I.cell 2;clear I J;(go_wp2_with fail);refine(lT (HT.a.ext o.a)).mono ?_;rintro e w3 ⟨rfl,b3⟩;have R:=K2.a.ext b3;have B3:=o.a.trans (b3.mono o.a.size);have c0:=R.cell 0;have c1:=R.cell 1;have c2:=R.cell 2;have f0:=R.frozen;have K4:=ja R;have B4:=ja B3;clear b3 R B3 q0 q1 q2;unfold tM;go_wp2;have z4:=((K4.a.aC 0 (i6 2)).aC 1 (i6 1)).aC 2 (i6 p);have bz:=((B4.a.setCell (p:=ae g 0) HG.a (i6 2)).setCell (p:=ae g 1) HG.a (i6 1)).setCell (p:=ae g 2) HG.a (i6 p);refine bodyPost_ret (v:=.tuple #[.agg #[i6 2,i6 1,i6 p],i6 0]) (bG [i6 2,i6 1,i6 p] _ results27 rfl z4.range underlying76 rfl kj rfl) rfl ?_;exact⟨rfl,bz⟩
 ·(go_wp2_with fail);refine(oA (HT.a.ext B.a)).mono ?_;rintro e U ⟨rfl,j⟩;have K1:=ja (K.a.ext j);have B1:=ja (B.a.trans (j.mono B.a.size));clear j;unfold tM;(go_upto_region 4 with fail);have I:=ak.new U 145 #[i6 2,i6 2,i6 p];have J:=(Below.refl U.heap.size U).alloc lh (.cells #[i6 2,i6 2,i6 p] 145);generalize U.alloc (.cells #[i6 2,i6 2,i6 p] 145)=w2 at*;have o:=ja (B1.a.trans (J.mono B1.a.size));have K2:=ja (K1.a.ext J);have q0:=I.cell 0;have q1:=I.cell 1;have q2:=I.cell 2;clear I J;(go_wp2_with fail);refine(lT (HT.a.ext o.a)).mono ?_;rintro e w3 ⟨rfl,b3⟩;have R:=K2.a.ext b3;have B3:=o.a.trans (b3.mono o.a.size);have c0:=R.cell 0;have c1:=R.cell 1;have c2:=R.cell 2;have f0:=R.frozen;have K4:=ja R;have B4:=ja B3;clear b3 R B3 q0 q1 q2;unfold tM;go_wp2;have z4:=((K4.a.aC 0 (i6 2)).aC 1 (i6 2)).aC 2 (i6 p);have bz:=((B4.a.setCell (p:=ae g 0) HG.a (i6 2)).setCell (p:=ae g 1) HG.a (i6 2)).setCell (p:=ae g 2) HG.a (i6 p);refine bodyPost_ret (v:=.tuple #[.agg #[i6 2,i6 2,i6 p],i6 0]) (bG [i6 2,i6 2,i6 p] _ results27 rfl z4.range underlying76 rfl kj rfl) rfl ?_;exact⟨rfl,bz⟩
def nz (w:World) (t:Nat) (o:Option (Int×Int)) (w':World):Prop:=ak w' t 139 (eP o)/\af (· =t) w w'
theorem nz.of {o o':Option (Int×Int)} {w0 w1:World} (hb:Bw w w0) (h:ak w0 t 139 (eP o)) (hw:w1=w0.setCell (ae t 0) (qO o')):nz w t o' w1:=by subst hw;exact⟨h.aC 0 (qO o'),(af.aj hb).trans (Co.af.setCell w0 t 0 (qO o')) (λ_ e=>.inl e)⟩
theorem tP {m p:Int} (h:ak w t 139 (eP (some (m,p)))) (q:Int) (hq:0<=q):Calls prog 30 #[pt t 0,i6 0,i6 q] w λe w'=>e=.returned (i6 0)/\nz w t (some (m,q)) w':=by
 have HT:=ja h;clear h;go_enter func30,ntmps30;go_wp2_with fail
 refine(oA HT.a).mono ?_;rintro e R ⟨rfl,b1⟩;have B1:=ja b1;clear b1;unfold tM;go_upto_region 2 with fail
 obtain⟨g,hg⟩:=ex R.heap.size;have I:=ak.new R 145 #[i6 2,i6 m,i6 p];have U:=(Below.refl R.heap.size R).alloc lh (.cells #[i6 2,i6 m,i6 p] 145);generalize R.alloc (.cells #[i6 2,i6 m,i6 p] 145)=w2 at*;rw[hg]at I|-;have HG:=ja (show t<g/\w.heap.size<=g by have h1:=HT.a.lt;have h2:=B1.a.size;omega);have B2:=ja (B1.a.trans (U.mono B1.a.size));have q2:=I.cell 2;have f0:=I.frozen;have KQ:=ja I;clear I U hg;go_upto_region 7 with fail
 have z2:=KQ.a.aC 2 (i6 q);have bz:=B2.a.setCell (p:=ae g 2) HG.a.2 (i6 q);generalize w2.setCell (ae g 2) (i6 q)=w3 at*;refine wp_region_still_tail 7 kj kj ?_;obtain⟨w4,J⟩:=ex ({w3 with drawn:=w3.drawn+1}:World);have b4:Bw w3 w4:=by subst J;exact(Below.refl _ w3).drew
 rw[J];have j:=z2.ext b4;have B4:=ja (bz.trans (b4.mono bz.size));have o:=HT.a.ext B4.a;have y0:=j.cell 0;have y1:=j.cell 1;have y2:=j.cell 2;have x0:=o.cell 0;have fT:=o.frozen;have A':=ja o;have A0:=AV;clear z2 bz b4 J j o q2 f0;simp only[td];repeat still_step
 refine wpStill_nil ?_;go_wp2;go_ret;exact⟨rfl,nz.of B4.a A'.a rfl⟩
theorem j0 {m p:Int} (h:ak w t 139 (eP (some (m,p)))):Calls prog 32 #[pt t 0,i6 0] w λe w'=>e=.returned (i6 0)/\nz w t none w':=by
 have o:=ja h;clear h;go_enter func32,ntmps32;go_wp2_with fail
 refine(lT o.a).mono ?_;rintro e J ⟨rfl,b1⟩;have B1:=ja b1;clear b1;unfold tM;go_upto_region 2 with fail
 have U:=ak.new J 76 #[i6 2,i6 m,i6 p];have I:=(Below.refl J.heap.size J).alloc lh (.cells #[i6 2,i6 m,i6 p] 76);generalize J.alloc (.cells #[i6 2,i6 m,i6 p] 76)=w2 at*;have B2:=ja (B1.a.trans (I.mono B1.a.size));have R:=o.a.ext B2.a;have x0:=R.cell 0;have fT:=R.frozen;have j:=ja R;clear U I R;go_wp2;go_ret;exact⟨rfl,nz.of B2.a j.a rfl⟩
theorem wC (k:Nat) (hk:k<8) (w:World): (Instr.index 137 (.agg #[.nilIface,.nilIface,.nilIface,.nilIface,.nilIface,.nilIface,.nilIface,.nilIface]) (i6 (k:Int))).run prog w=.ok .nilIface w:=by
 have h:k=0\/k=1\/k=2\/k=3\/k=4\/k=5\/k=6\/k=7:=by omega
 rcases h with rfl|rfl|rfl|rfl|rfl|rfl|rfl|rfl<;>rfl
theorem lY (h:ak w t 139 (eP none)) (m:Int) (hm:m=1\/m=2):Calls prog 24 #[pt t 0,i6 2,i6 m] w λe w'=>e=.returned (.tuple #[i6 0,i6 0])/\nz w t (some (m,0)) w':=by
 have HT:=ja h;have A':¬m=8:=by omega
 have x0:w.cell? (ae t 0)=some .nilIface:=h.cell 0;have x1:w.cell? (ae t 1)=some .nilIface:=h.cell 1;have x2:w.cell? (ae t 2)=some .nilIface:=h.cell 2;have x3:w.cell? (ae t 3)=some .nilIface:=h.cell 3;have x4:w.cell? (ae t 4)=some .nilIface:=h.cell 4;have x5:w.cell? (ae t 5)=some .nilIface:=h.cell 5;have x6:w.cell? (ae t 6)=some .nilIface:=h.cell 6;have x7:w.cell? (ae t 7)=some .nilIface:=h.cell 7;clear h;go_enter func24,ntmps24;go_wp2_with(refine(vi m hm _).mono ?_;rintro e w' ⟨rfl,hw⟩;rw[hw];clear hw)
 clear x0 x1 x2 x3 x4 x5 x6 x7;go_loopw [8,9,10,11,27] (λ_ _ _ _ u wr=>u=i6 0/\w=wr) (λ_ _ _ _ _ _=>0)
 case atStart=>exact⟨rfl,rfl⟩
 case round=>obtain⟨rfl,rfl⟩:=hrel;have hx:=wC 0 dc;rw[show((0:Nat):Int)=0 from rfl]at hx;(go_wp2_with fail);refine(uZ w).mono ?_;rintro e J ⟨rfl,U⟩;have j:=ja U;clear U;have A0:=AV;(go_upto_region 7 with fail);have o:=(Below.refl J.heap.size J).alloc lh (.cells #[i6 0,i6 0,i6 0] 76);generalize J.alloc (.cells #[i6 0,i6 0,i6 0] 76)=w2 at*;have B2:=ja (j.a.trans (o.mono j.a.size));have I:=HT.a.ext B2.a;have x0:=I.cell 0;have fT:=I.frozen;have R:=ja I;clear o I;go_wp2;go_ret2;exact⟨rfl,nz.of B2.a R.a rfl⟩
theorem C6 (h:ak w t 139 (eP none)) (i:Int):Calls prog 75 #[pt t 0,i6 i] w λe w'=>e=.returned (i6 0)/\Bw w w':=by
 have x0:w.cell? (ae t 0)=some .nilIface:=h.cell 0;have x1:w.cell? (ae t 1)=some .nilIface:=h.cell 1;have x2:w.cell? (ae t 2)=some .nilIface:=h.cell 2;have x3:w.cell? (ae t 3)=some .nilIface:=h.cell 3;have x4:w.cell? (ae t 4)=some .nilIface:=h.cell 4;have x5:w.cell? (ae t 5)=some .nilIface:=h.cell 5;have x6:w.cell? (ae t 6)=some .nilIface:=h.cell 6;have x7:w.cell? (ae t 7)=some .nilIface:=h.cell 7;clear h;go_enter func75,ntmps75;go_wp2;clear x0 x1 x2 x3 x4 x5 x6 x7;go_loopw [5,7,8,9,14] (λn _ _ _ u wr=>n=i6 0/\∃k:Nat,k<=8/\u=i6 (k:Int)/\Bw w wr) (λ_ _ _ _ u _=>8-(RowKit.intOf u).toNat)
 case atStart=>exact⟨rfl,0,Nat.zero_le _,rfl,Below.refl _ _⟩
 case round=>
  obtain⟨rfl,k,hk,rfl,I⟩:=hrel;by_cases R:k<8
  ·have hx:=wC k R;have J:=ja I;clear I;(go_wp2_with fail);refine(uZ wr).mono ?_;rintro e U ⟨rfl,j⟩;have o:=ja (J.a.trans (j.mono J.a.size));clear j hx;(go_upto_region 6 with fail);have bq:=(Below.refl U.heap.size U).alloc lh (.cells #[i6 0,i6 0,i6 0] 76);generalize U.alloc (.cells #[i6 0,i6 0,i6 0] 76)=w2 at*;have B2:=ja (o.a.trans (bq.mono o.a.size));clear bq;go_wp2;go_roundw;case rel=>exact⟨rfl,k+1,by omega,by simp,B2.a⟩
   case measure=>simp[RowKit.intOf];omega
  ·obtain rfl:k=8:=(by omega);have J:=ja I;clear I;go_wp2;go_ret;exact⟨rfl,J.a⟩
theorem iF (w:World):Calls prog 59 #[] w λe w'=>e=.returned (pt w.heap.size 0)/\ak w' w.heap.size 139 (eP none)/\w'.heap.size=w.heap.size+1/\Bw w w':=by go_enter func59,ntmps59;go_wp2;go_ret;exact⟨rfl,ak.new w _ _,by simp,bh.alloc lh _⟩
end Tb
namespace Pa
abbrev N:=List UInt8
def cut:List UInt8->List N
 |[]=>[[]]
 |c::s=>if c=47 then []::cut s else match cut s with
  |[]=>[[c]]
  |x::xs=>(c::x)::xs
theorem JU:∀s,cut s≠[]
 |[]=>by simp[cut]
 |c::s=>by
  unfold cut;split
  ·simp
  ·split<;>simp
theorem nO:∀r:List UInt8,(Lib.indexByte r 47=-1/\cut r=[r])\/∃i:Nat,i<r.length/\Lib.indexByte r 47=i/\cut r=r.take i::cut (r.drop (i+1))
 |[]=>.inl ⟨rfl,rfl⟩
 |c::s=>by
  by_cases I:c=47
  ·refine .inr ⟨0,by simp,?_,?_⟩
   ·simp[Lib.indexByte,I]
   ·simp[cut,I]
  ·have U: (c==47)=false:=beq_eq_false_iff_ne.2 I;rcases nO s with⟨J,R⟩|⟨i,hi,J,R⟩
   ·refine .inl ⟨?_,?_⟩
    ·unfold Lib.indexByte;rw[U,J];rfl
    ·unfold cut;rw[if_neg I,R]
   ·refine .inr ⟨i+1,by simp;omega,?_,?_⟩
    ·unfold Lib.indexByte;rw[U,J,if_neg sj,if_neg sj];rfl
    ·rw[show cut (c::s)=(if c=47 then []::cut s else match cut s with|[]=>[[c]]|x::xs=>(c::x)::xs)from rfl,if_neg I,R]
     simp
def step (st:List N×Nat) (c:N):List N×Nat:=
 if st.2≠0 then st else if c=[]\/c=[46]then st else if c=[46,46]then(st.1.dropLast,0)else
 if Tl.dR c then(if 8<=st.1.length then([],16)else(st.1++[c],0))else([],11)
def ps (l:List N):List N×Nat:=l.foldl step ([],0)
theorem FB (l:List N) (st:List N×Nat) (h:st.2≠0):l.foldl step st=st:=by
 induction l with
 |nil=>rfl
 |cons c l ih=>rw[List.foldl_cons];unfold step;rw[if_pos h];exact ih
theorem IA (l:List N) (c:N):ps (l++[c])=step (ps l) c:=by unfold ps;rw[List.foldl_append];rfl
theorem LY (l m:List N):ps (l++m)=m.foldl step (ps l):=by unfold ps;rw[List.foldl_append]
theorem J' (l m:List N) (h: (ps l).2≠0):ps (l++m)=ps l:=by rw[LY,FB _ _ h]
theorem vt (l:List N) (k:Nat) (h: (ps (l.take k)).2≠0):ps l=ps (l.take k):=by
 conv=>lhs;rw[<-List.take_append_drop k l]
 exact J' _ _ h
def Good (st:List N×Nat):Prop:=st.1.length<=8/\(∀c∈st.1,Tl.dR c=true)/\(st.2=0\/st.1=[])
theorem C0 {st:List N×Nat} (h:Good st) (c:N):Good (step st c):=by
 obtain⟨J,I,R⟩:=h;unfold step;split
 ·exact⟨J,I,R⟩
 ·split
  ·exact⟨J,I,R⟩
  ·split
   ·exact⟨by simp;omega,λc U=>I c (List.dropLast_subset _ U),.inl rfl⟩
   ·split
    ·split
     ·exact⟨by simp,by simp,.inr rfl⟩
     ·rename_i hn h8;refine⟨by simp;omega,?_,.inl rfl⟩;intro d hd;rcases List.mem_append.1 hd with hd|hd
      ·exact I d hd
      ·rw[List.mem_singleton.1 hd];exact hn
    ·exact⟨by simp,by simp,.inr rfl⟩
theorem BL (l:List N):∀st,Good st->Good (l.foldl step st):=by
 induction l with
 |nil=>exactλ_ h=>h
 |cons c l ih=>exactλst h=>ih _ (C0 h c)
theorem tc (l:List N):Good (ps l):=BL l _ ⟨by simp,by simp,.inl rfl⟩
theorem Li (l:List N):ps ([]::l)=ps l:=rfl
def parse (s:List UInt8):List N×Nat:=if s.head?=some 47 then(if 200<s.length then([],16)else ps (cut s))else([],11)
theorem zm (s:List UInt8):Good (parse s):=by
 unfold parse;split
 ·split
  ·exact⟨by simp,by simp,.inr rfl⟩
  ·exact tc _
 ·exact⟨by simp,by simp,.inr rfl⟩
def fx (s:List UInt8):List N:=if s.head?=some 47 then cut (s.drop 1)else []
theorem FV (s:List UInt8) (h:s.head?=some 47):ps (cut s)=ps (fx s):=by
 unfold fx;rw[if_pos h];cases s with
 |nil=>cases h
 |cons c s=>injection h with h;subst h;rfl
def parent (s:List UInt8):List N×N×Nat:=if(parse s).2≠0 then([],[],(parse s).2)else if(parse s).1=[]then([],[],1)else((parse s).1.dropLast,(parse s).1.getLastD [],0)
end Pa
namespace PaW
open Go.RowKit Go.ChangeShapes Go.WideShapes Go.ChangeAt
def strs (l:List (List UInt8)):List Value:=l.map λs=>.string ⟨s.toArray⟩
def fy (w:World) (B:Nat) (v:Value) (l:List (List UInt8)):Prop:=bw w B 1 v l.length (strs l)
def tJ (w:World) (B:Nat) (A:Option Addr) (l:List (List UInt8)):Prop:=∀(j:Nat) (_:j<l.length),∃b off,A=some ⟨b,off,none⟩/\b<B/\w.cell? (ae b (off+j))=some (.string ⟨(l.getD j []).toArray⟩)
theorem uJ (l m:List (List UInt8)):strs (l++m)=strs l++strs m:=by unfold strs;rw[List.map_append]
theorem DT (l:List (List UInt8)): (strs l).length=l.length:=by unfold strs;rw[List.length_map]
theorem qX (l:List (List UInt8)) (k:Nat): (strs l).take k=strs (l.take k):=by unfold strs;rw[List.map_take]
theorem AJ: (prog.info? 9).map (λi=>(i.zero,i.size,i.bytes))=some (some (.string .empty),1,16):=by kernel_rfl
theorem fy.open_ {w:World} {B:Nat} {v:Value} {l:List (List UInt8)} (h:fy w B v l):∃(A:Option Addr) (c:Nat),v=.slice A l.length c/\l.length<=c/\c<=9223372036854775807/\tJ w B A l:=by obtain⟨A,c,I,J,R,h4,U⟩:=h;refine⟨A,c,I,J,R,λj o=>?_⟩;obtain⟨b,off,e,hb,hc⟩:=U om;exact⟨b,off,e,hb,hc _ _ (by unfold strs;simp[List.getD,o])⟩
theorem tJ.below {w w':World} {B:Nat} {A:Option Addr} {l:List (List UInt8)} (h:tJ w B A l) (hb:Below B w w'):tJ w' B A l:=λj J=>by obtain⟨b,off,e,I,R⟩:=h j J;exact⟨b,off,e,I,(cl hb I R)⟩
theorem fy.aG {w:World} {base n:Nat} {v:Value} {l:List (List UInt8)} (h:w.ownsRow base 9 1 v n (strs l)):fy w w.heap.size v l:=by have I:=h.1;rw[DT,Nat.mul_one]at I;subst I;exact bw.aG h
theorem fy.fp (w:World) (B:Nat):fy w B (.slice none 0 0) []:=bw.fp _ _ _
theorem fy.head {w:World} {B:Nat} {A:Option Addr} {c k:Nat} {l:List (List UInt8)} (h:fy w B (.slice A l.length c) l) (hk:k<=l.length):fy w B (.slice A k c) (l.take k):=by have:=bw.head h hk;unfold fy;rw[List.length_take,Nat.min_eq_left hk,<-qX];simpa using this
theorem ml (A:Option Addr) (n c k:Nat) (hk:k<=c) (z:Int) (hz:z=k) (W:World):
 (Instr.slice 22 (.slice A n c) none (some (i6 z)) none).run prog W=.ok (.slice A k c) W:=by
 subst hz;rw[run_slice_h _ _ _ _ _ kj .i64 _ om om,Int.toNat_natCast];have hs: (sizeOf (prog.elem 22)).run prog W=.ok 1 W:=kj;rw[hs];simp[Result.andThen,sliced];intro h;cases A<;>simp[Addr.add]
theorem CF {w:World} {base n k c:Nat} {e:TypeId} {A:Option Addr} {xs:List Value} (h:w.ownsRow base e 1 (.slice A n c) n xs) (hk:k<=n) (h0:0<n):w.ownsRow base e 1 (.slice A k c) k (xs.take k):=by
 obtain⟨h1,I⟩:=h;rcases I with⟨_,I⟩|⟨g,cap,cur,he,J,R,hn,hm,hs,U⟩
 ·omega
 ·injection he with j e2 o;subst j o;refine⟨by rw[List.length_take];omega,.inr ⟨g,c,cur,rfl,J,R,by omega,hm,hs,?_⟩⟩;rw[<-U,List.take_take];congr 1;omega
theorem qj (s:ByteArray) (c:Int) (w:World):
 Calls prog 292 #[.string s,.int .u8 c] w λe w'=>e=.returned (i6 (Lib.indexByte s.data.toList c.toNat.toUInt8))/\w'=w:=by
 go_enter func292,ntmps292;go_wp2;rw[run_callFunc_extern func320 kj kj kj (e:=Extern.BytealgIndexByte.indexByte) kj,Lib.run_indexByteString];simp only[Result.andThen];rw[Oper.upon_value];go_wp2;go_ret;exact⟨rfl,rfl⟩
theorem Bv (s:ByteArray) (c:UInt8) (w:World):
 Calls prog 255 #[.string s,.string ⟨#[c]⟩] w λe w'=>e=.returned (i6 (Lib.indexByte s.data.toList c))/\w'=w:=by
 go_enter func255,ntmps255;go_wp2_with(go_at_call 292;refine(qj _ _ _).mono ?_;rintro e w' ⟨rfl,rfl⟩)
 ·have h: ([c]==s.toList)=true:=(by assumption);go_ret;refine⟨?_,rfl⟩;have e:s.data.toList=[c]:=(by rw[<-Lib.toList_data];exact(beq_iff_eq.1 h).symm);rw[e];simp[Lib.indexByte]
 ·go_ret;exact⟨rfl,rfl⟩
def cutAt (r:List UInt8):List UInt8×List UInt8×Bool:=if Lib.indexByte r 47=-1 then(r,[],false)else(r.take (Lib.indexByte r 47).toNat,r.drop ((Lib.indexByte r 47).toNat+1),true)
theorem CR (r:List UInt8):Pa.cut r=(cutAt r).1::(if(cutAt r).2.2 then Pa.cut (cutAt r).2.1 else []):=by
 unfold cutAt;rcases Pa.nO r with⟨I,J⟩|⟨i,hi,I,J⟩
 ·rw[if_pos I,J];rfl
 ·rw[I,if_neg om,J];simp
theorem Bo (r:List UInt8): (cutAt r).1.length<=r.length/\(cutAt r).2.1.length<=r.length/\((cutAt r).2.2=true->(cutAt r).2.1.length<r.length):=by
 unfold cutAt;rcases Pa.nO r with⟨I,J⟩|⟨i,hi,I,J⟩
 ·rw[if_pos I];simp
 ·rw[I,if_neg om];simp;omega
theorem Ez (r:List UInt8) (w:World) (hr:r.length<=1000000):
 Calls prog 216 #[.string ⟨r.toArray⟩,.string ⟨#[47]⟩] w λe w'=>e=.returned (.tuple #[.string ⟨(cutAt r).1.toArray⟩,.string ⟨(cutAt r).2.1.toArray⟩,.bool (cutAt r).2.2])/\Bw w w':=by
 have o:=dX r;have J:=ja (Bv ⟨r.toArray⟩ 47);have U:=ja (show cutAt r=if Lib.indexByte r 47=-1 then(r,[],false)else(r.take (Lib.indexByte r 47).toNat,r.drop ((Lib.indexByte r 47).toNat+1),true)from rfl)
 have hd: (⟨r.toArray⟩:ByteArray).data.toList=r:=rfl;rw[hd]at J;clear hd;rcases Pa.nO r with⟨I,_⟩|⟨i,hi,I,_⟩
 ·rw[I,if_pos rfl]at U;rw[I]at J;clear I;go_enter func216,ntmps216;(go_wp2_with fail);refine(J.a w).mono ?_;rintro e j ⟨rfl,rfl⟩;go_wp2;go_ret3;exact⟨by rw[U.a];rfl,Below.refl _ _⟩
 ·rw[I,if_neg om,Int.toNat_natCast]at U;rw[I]at J;have ht:∀W,(Instr.slice 9 (.string ⟨r.toArray⟩) none (some (i6 (i:Int))) none).run prog W=.ok (.string ⟨(r.take i).toArray⟩) W:=λW=>(by have:=run_slice_string_h (P:=prog) W 9 (⟨r.toArray⟩:ByteArray) underlying9 .i64 (i:Int) om (by rw[dX];omega);rw[this,Int.toNat_natCast,nL]);have R:∀W,(Instr.slice 9 (.string ⟨r.toArray⟩) (some (i6 ((i:Int)+1))) none none).run prog W=.ok (.string ⟨(r.drop (i+1)).toArray⟩) W:=λW=>(by have:=run_slice_string_l (P:=prog) W 9 (⟨r.toArray⟩:ByteArray) underlying9 .i64 ((i:Int)+1) om (by rw[dX];omega);rw[this,show((i:Int)+1).toNat=i+1 by omega,dX,iL,List.take_length]);clear I;obtain⟨S,hS⟩:=ex (⟨r.toArray⟩:ByteArray);rw[hS]at o J ht R|-;clear hS;have A0: (0:Int)<=(i:Int):=(by omega);go_enter func216,ntmps216;(go_wp2_with fail);refine(J.a w).mono ?_;rintro e j ⟨rfl,rfl⟩;(go_upto_region 3 with fail);have A':Bw j j.drew:=bh.drew;refine wp_region_list 12 [(ez (.string S)),(ez (i6 (i:Int))),(ez (.string ⟨(r.take i).toArray⟩)),(ez (.string S)),(ez (i6 (i:Int))),(ez (.string ⟨#[47]⟩)),(ez (i6 1)),(ez (i6 ((i:Int)+1))),(ez (.string ⟨(r.drop (i+1)).toArray⟩)),(ez (.string ⟨(r.take i).toArray⟩)),(ez (.string ⟨(r.drop (i+1)).toArray⟩)),(ez (.bool true))]
   (λq=>Bw j q) kj rfl kj ?_ ?_ ?_ ?_
  ·exact A'
  ·exact sv
  ·refine⟨rz [] [0],rz [] [7],rx [0,13,1,14] [] λx hG=>ht x,rz [] [0],rz [] [7],rz [] [1],rx [5,18] [] λx hG=>(rfl: ((⟨#[47]⟩:ByteArray)).size=1),rx [4,17,6,19] [] λx hG=>(IntWalk.i64_in _ om:IntKind.i64.wrap ((i:Int)+1)=(i:Int)+1),rx [3,16,7,20] [] λx hG=>R x,rz [2,15] [],rz [8,21] [],rz [] [],trivial⟩
  ·intro x hG;(iterate 12 rintro _ rfl);simp only[ap];(try simp only[Exit.then]);go_wp2;go_ret3;exact⟨by rw[U.a];rfl,hG⟩
theorem E_ (r:List UInt8) (w:World) (hr:r.length<=1000000):
 Calls prog 165 #[.string ⟨r.toArray⟩,.string ⟨#[47]⟩] w λe w'=>e=.returned (.tuple #[.string ⟨(cutAt r).1.toArray⟩,.string ⟨(cutAt r).2.1.toArray⟩,.bool (cutAt r).2.2])/\Bw w w':=by
 have I:=ja (Ez r);generalize cutAt r=q at*;obtain⟨x,y,z⟩:=q;dsimp only at I|-;generalize(⟨r.toArray⟩:ByteArray)=S at*;generalize(⟨x.toArray⟩:ByteArray)=X at*;generalize(⟨y.toArray⟩:ByteArray)=Y at*;go_enter func165,ntmps165;go_wp2_with fail
 refine(I.a w hr).mono ?_;rintro e R ⟨rfl,J⟩;go_wp2;go_ret3;exact⟨rfl,J⟩
def preB (b:List UInt8):Bool:=decide (b.head?=some 47)
theorem vL (b:List UInt8):preB b=((b.take 1)==[47]):=by
 unfold preB;cases b with
 |nil=>rfl
 |cons c s=>show decide (some c=some 47)=([c]==[47]);rw[Bool.eq_iff_iff,decide_eq_true_iff,beq_iff_eq];simp
theorem yL (b:List UInt8) (w:World):
 Calls prog 116 #[.string ⟨b.toArray⟩,.string ⟨#[47]⟩] w λe w'=>e=.returned (.bool (preB b))/\w'=w:=by
 have I:=dX b;have hx: ((⟨b.toArray⟩:ByteArray).extract 0 1).toList=b.take 1:=by rw[nL,cD]
 have J:=ja (vL b);have R:Hid (b=[]->preB b=false):=Lib.hid (λh=>by rw[h];rfl);generalize(⟨b.toArray⟩:ByteArray)=S at*;by_cases U:1<=b.length
 ·have j:1<=S.size:=(by omega);have hb: ((S.extract 0 1).toList==[47])=preB b:=(by rw[hx,J.a]);generalize preB b=pb at*;clear hx J U I;go_enter func116,ntmps116;go_wp2;all_goals
   go_ret;exact⟨rfl,rfl⟩
 ·have j:¬1<=S.size:=(by omega);have o:=ja (R.out (List.length_eq_zero_iff.1 om));go_enter func116,ntmps116;go_wp2;go_ret;exact⟨by rw[o.a];rfl,rfl⟩
theorem yW (b:List UInt8) (w:World):
 Calls prog 164 #[.string ⟨b.toArray⟩,.string ⟨#[47]⟩] w λe w'=>e=.returned (.tuple #[.string ⟨(if preB b then b.drop 1 else b).toArray⟩,.bool (preB b)])/\w'=w:=by
 have R:=dX b;have hx: ((⟨b.toArray⟩:ByteArray).extract 0 1).toList=b.take 1:=by rw[nL,cD]
 have I:=ja (vL b);have J:Hid (b=[]->preB b=false):=Lib.hid (λh=>by rw[h];rfl);have j:Hid ((⟨b.toArray⟩:ByteArray).extract 1 b.length=⟨(b.drop 1).toArray⟩):=Lib.hid (by rw[iL,List.take_length]);obtain⟨S,hS⟩:=ex (⟨b.toArray⟩:ByteArray);rw[hS]at R hx j|-;by_cases U:1<=b.length
 ·have h1:1<=S.size:=(by omega);have o: ((S.extract 0 1).toList==[47])=preB b:=(by rw[hx,I.a]);cases hpb:preB b with
  |true=>rw[hpb]at o;rw[if_pos rfl];generalize(⟨(b.drop 1).toArray⟩:ByteArray)=D at*;clear hx I U hpb hS J;go_enter func164,ntmps164;go_wp2;go_ret2;exact⟨by rw[<-j.out];rfl,rfl⟩
  |false=>rw[hpb]at o;rw[if_neg dc,hS];clear hx I U hpb hS J;go_enter func164,ntmps164;go_wp2;go_ret2;exact⟨rfl,rfl⟩
 ·have h1:¬1<=S.size:=(by omega);rw[J.out (List.length_eq_zero_iff.1 om),if_neg dc,hS];clear hx I U hS J;go_enter func164,ntmps164;go_wp2;go_ret2;exact⟨rfl,rfl⟩
end PaW
namespace PaW
open Go.RowKit Go.ChangeShapes Go.WideShapes Go.ChangeAt
attribute [local go_sem] Oper.semAt_some
abbrev Piece:={x:Pa.N//x.length<1099511627776}
def IF (x:Piece):Array Value:=#[.string ⟨x.1.toArray⟩]
def Fz (t3 t4:Value):Nat:=match t4 with| .bool true=>Mi t3+1|_=>0
theorem AO (r:List UInt8):Fz (.string ⟨r.toArray⟩) (.bool true)=r.length+1:=by show r.toArray.size+1=_;simp
theorem IG (t:Value):Fz t (.bool false)=0:=rfl
theorem Ci (b:List UInt8):Pa.fx b=if preB b then Pa.cut (if preB b then b.drop 1 else b)else []:=by unfold Pa.fx preB;by_cases h:b.head?=some 47<;>simp[h]
theorem C3 (n:Nat) (hn:1<=n) (l Bx n₀:Nat) (b:List UInt8) (hbl:b.length<=1000000) (J Jx:List Piece->World->Prop)
 (hY:∀pre (x:Piece) W,J pre W->pre.length<(Pa.fx b).length->YieldAt Fence.wide (n-1) prog l (IF x) W λe W'=>(e=.returned (.bool true)/\J (pre++[x]) W'/\Below n₀ W W')\/(e=.returned (.bool false)/\Jx (pre++[x]) W'))
 (W:World) (hn₀:n₀<=W.heap.size) (hJ:AbidesFrom W.heap.size J) (hBx:W.cell? (ae Bx 0)=some (.string ⟨b.toArray⟩)) (h0:J [] W):
 CallsIn Fence.wide n prog 163 #[.func (.yield l) #[] #[],pt Bx 0] W λe W'=>(∃v,e=.returned v)/\
  ((∃ys:List Piece,ys.map (·.1)=Pa.fx b/\J ys W')\/(∃pre:List Piece,(∃k,k<=(Pa.fx b).length/\pre.map (·.1)=(Pa.fx b).take k)/\Jx pre W')):=by
 have A7:=Lib.hid (Ci b);have A':=Lib.hid (yW b W);have A8: (if preB b then b.drop 1 else b).length<=b.length:=by split<;>simp
 generalize(if preB b then b.drop 1 else b)=r0 at*
 generalize preB b=m0 at*;generalize(⟨b.toArray⟩:ByteArray)=SB at*;have A9:=h0;refine callsIn_of_wp func163 rfl trivial ?_ rfl;simp only[ntmps163,List.size_toArray,List.length_cons,List.length_nil,Nat.reduceAdd,Nat.reduceSub,Array.replicate_succ,Array.replicate_zero,List.push_toArray,List.append_toArray,List.nil_append,List.cons_append];gi_wp2_with fail;refine⟨trivial,?_⟩;refine(callsIn_wide.2 A'.out).mono ?_;rintro e w1 ⟨rfl,rfl⟩;gi_wp2;gi_loopw [3,4] (λt3 t4 wr=>∃(ys:List Piece) (r:List UInt8) (m:Bool),t3=.string ⟨r.toArray⟩/\t4=.bool m/\r.length<=b.length/\Hid (ys.map (·.1)++(if m then Pa.cut r else [])=Pa.fx b)/\J ys wr/\Below n₀ w1 wr)
  (λt3 t4 _=>Fz t3 t4)
 case atStart=>exact⟨[],r0,m0,rfl,rfl,A8,Lib.hid (by rw[A7.out];rfl),h0,Below.refl _ _⟩
 case round=>
  obtain⟨ys,r,m,rfl,rfl,Ah,A0,A1,A2⟩:=hrel;clear h0 A9;cases m with
  |true=>
   have R:=Lib.hid (E_ r);have A3:=Lib.hid (CR r);have U:=Lib.hid (Bo r);have AI:=AO r;have Ao:=Lib.hid (Pa.JU r);generalize cutAt r=q at*;obtain⟨pc,r2,m2⟩:=q;dsimp only at R A3 U;have j:pc.length<1099511627776:=(by have:=U.out.1;omega);gi_wp2_with fail;refine⟨trivial,?_⟩;refine(callsIn_wide.2 (R.out wr om)).mono ?_;rintro e W1 ⟨rfl,A4⟩;have AR:J ys W1:=hJ _ _ _ none A1 (aI A4 none) (λr e=>by cases e);have I:ys.map (·.1)++Pa.cut r=Pa.fx b:=(by have h:=A0.out;simpa using h);rw[A3.out]at I;obtain⟨fn,tmps,assign,body,hy,hR⟩:=hY ys ⟨pc,j⟩ W1 AR (by rw[<-I];simp);unfold IF at hy;dsimp only at hy;have Aa:n₀<=wr.heap.size:=Nat.le_trans hn₀ A2.size;have A5: (ys++[(⟨pc,j⟩:Piece)]).map (·.1)++(if m2 then Pa.cut r2 else [])=Pa.fx b:=(by rw[<-I,List.map_append,List.append_assoc];rfl);have o:=Lib.hid A5
   have HR:=Lib.hid hR;clear A5 I hR;have Ab:=U.out.2;gi_wp2;refine HR.out.mono ?_;rintro e W3 (⟨rfl,Ad,Ae⟩|⟨rfl,A6⟩)
   ·gi_wp2;go_roundw;case rel=>exact⟨_,r2,m2,rfl,rfl,by omega,o,Ad,(A2.trans (A4.mono Aa)).trans Ae⟩
    case measure=>
     rw[AI];cases m2 with
     |true=>rw[AO];have:=Ab.2 rfl;omega
     |false=>rw[IG];omega
   ·gi_wp2;refine bodyPost_ret (results_none rfl _ _ _) rfl ?_;refine⟨⟨_,rfl⟩,.inr ⟨_,⟨(ys++[(⟨pc,j⟩:Piece)]).length,?_,?_⟩,A6⟩⟩
    ·rw[<-o.out];simp
    ·rw[<-o.out,List.take_left' sj]
  |false=>have hY:ys.map (·.1)=Pa.fx b:=(by have h:=A0.out;simpa using h);gi_wp2;go_end0;exact⟨⟨_,rfl⟩,.inl ⟨_,hY,A1⟩⟩
theorem Br (S:ByteArray) (w:World):
 Calls prog 118 #[.string S] w λe w'=>e=.returned (.func (.func 163) #[] #[pt w.heap.size 0])/\w'=w.alloc (.cells #[.string S] 9):=by
 go_enter func118,ntmps118;go_wp2;go_ret;exact⟨rfl,rfl⟩
theorem vk (n:Nat) (hn:1<=n) (Bx n₀:Nat) (b:List UInt8) (hbl:b.length<=1000000) (w:World) (hBx:Bx<w.heap.size) (hn₀:n₀<=w.heap.size) (hc:w.cell? (ae Bx 0)=some (.string ⟨b.toArray⟩)):
 SeqStopsK Fence.wide n prog 163 #[pt Bx 0] IF (Below n₀) (λys=>ys.map (·.1)=Pa.fx b) (λpre=>∃k,k<=(Pa.fx b).length/\pre.map (·.1)=(Pa.fx b).take k) (Pa.fx b).length w:=λl J R W I U _ j o=>
 C3 n hn l Bx n₀ b hbl J R j W (Nat.le_trans hn₀ I.size) U (cl I hBx hc) o
end PaW
end Go.Proofs.YtdhgejiacehpbaaGreatDoor
