import Derived.Test.YtdhgejiacehpbaaGreatDoorA14
import Derived.Recover
set_option maxRecDepth 100000
set_option maxHeartbeats 16000000
set_option linter.all false
namespace Go.Proofs.YtdhgejiacehpbaaGreatDoor
open Go.Proofs.Tryz
namespace Co
open Go.RowKit
open SmW (cG bP gD wX)
attribute [local go_sem] Oper.semAt_some
section
variable {w:World}
theorem Ct (A:Option Addr) (n c k:Nat) (hk:k<=c) (z:Int) (hz:z=k) (W:World):
 (Instr.slice 264 (.slice A n c) none (some (i6 z)) none).run prog W=.ok (.slice A k c) W:=by
 subst hz;rw[run_slice_h _ _ _ _ _ kj .i64 _ om om,Int.toNat_natCast];have hs: (sizeOf (prog.elem 264)).run prog W=.ok 4 W:=kj;rw[hs];simp[Result.andThen,sliced];intro h;cases A<;>simp[Addr.add]
theorem BU (A:Option Addr) (n c k:Nat) (hk:k<=n) (z:Int) (hz:z=k) (W:World):
 (Instr.slice 264 (.slice A n c) (some (i6 z)) none none).run prog W=.ok (.slice (if c=k then A else A.map (·.add (k*4))) (n-k) (c-k)) W:=by
 subst hz;rw[run_slice_l _ _ _ _ _ kj .i64 _ om om,Int.toNat_natCast];have hs: (sizeOf (prog.elem 264)).run prog W=.ok 4 W:=kj;rw[hs];rfl
theorem xH (A:Option Addr) (n c k:Nat) (hk:k<=c) (z:Int) (hz:z=k) (W:World):
 (Instr.slice 250 (.slice A n c) none (some (i6 z)) none).run prog W=.ok (.slice A k c) W:=by
 subst hz;rw[run_slice_h _ _ _ _ _ kj .i64 _ om om,Int.toNat_natCast];have hs: (sizeOf (prog.elem 250)).run prog W=.ok 1 W:=kj;rw[hs];simp[Result.andThen,sliced];intro h;cases A<;>simp[Addr.add]
theorem yF (A:Option Addr) (n c k:Nat) (hk:k<=n) (z:Int) (hz:z=k) (W:World):
 (Instr.slice 250 (.slice A n c) (some (i6 z)) none none).run prog W=.ok (.slice (if c=k then A else A.map (·.add k)) (n-k) (c-k)) W:=by
 subst hz;rw[run_slice_l _ _ _ _ _ kj .i64 _ om om,Int.toNat_natCast];have hs: (sizeOf (prog.elem 250)).run prog W=.ok 1 W:=kj;rw[hs];simp[Result.andThen,sliced]
def cF (g:Nat) (u h b:Value):List Value:=eh g++[i6 1,i6 0,.bool true,u,h,b]
theorem qH: (prog.info? 371).map (λi=>(i.zero,i.size,i.bytes))=some (some (.agg #[i6 0,.slice none 0 0,i6 0,i6 0,i6 0,.bool false,.slice none 0 0,.slice none 0 0,.slice none 0 0]),9,136):=by kernel_rfl
theorem G4 (W:World): (Instr.makeSlice 361 (i6 0) (i6 1)).run prog W=.ok (.slice (some ⟨W.heap.size,0,none⟩) 0 1) (W.alloc (.cells (madeCells (Value.agg #[i6 0,.slice none 0 0,i6 0,i6 0,i6 0,.bool false,.slice none 0 0,.slice none 0 0,.slice none 0 0]).cells (1*9)) 371)):=run_mk (P:=prog) underlying361 qH 0 1 (Nat.zero_le _) dc dc W
def mA (w:World) (g:Nat) (b:Value) (l:List Sm.En) (bl:List (List UInt8)) (e:Ending) (w':World):Prop:=∃v u h hl,e=.returned (.tuple #[v,i6 0])/\w'.ownsRow w.heap.size 371 9 v 1 (cF g u h b)/\cG w.heap.size w' u (gD l bl)/\ju w.heap.size w' h hl/\hl.length=128/\Bw w w'
theorem mA.ext {g:Nat} {b:Value} {l:List Sm.En} {bl:List (List UInt8)} {e:Ending} {x x':World} (h:mA w g b l bl e x) (hb:Bw x x'):mA w g b l bl e x':=by obtain⟨v,u,h,J,R,U,⟨j,o,h4⟩,h5,h6,I⟩:=h;exact⟨v,u,h,J,R,aD U hb,⟨j,o,aD h4 hb⟩,h5.ext hb,h6,I.trans (hb.mono I.size)⟩
theorem NU {s n:Int} {e:Bool} {l:List Sm.En} {bl:List (List UInt8)} (h:wX ⟨s,n,e,l⟩ bl=true):Sm.aV ⟨s,n,e,gD l bl⟩=true:=by
 unfold wX at h;simp only[Bool.and_eq_true]at h;have hm:=h.1.2;unfold Sm.aV at hm|-;simp only[Bool.and_eq_true]at hm|-;refine⟨?_,?_⟩
 ·show Sm.De s n (gD l bl).length=true;unfold gD;rw[List.length_map,SmW.iG];exact hm.1
 ·show(gD l bl).all Sm.rO=true;unfold gD;rw[List.all_map,show Sm.rO∘SmW.pQ bl=Sm.rO∘(·.2)from rfl,<-List.all_map,SmW.tw _ _ lh,List.take_length];exact hm.2
theorem Mv (s n:Int) (e:Bool) (l:List Sm.En) (bl:List (List UInt8)):Sm.Good ⟨s,n,e,gD l bl⟩:=by intro y I;obtain⟨x,_,rfl⟩:=List.mem_map.1 I;exact Crc.lD _
theorem cG.ext {B:Nat} {x x':World} {u:Value} {l:List Sm.En} (h:cG B x u l) (hb:Bw x x'):cG B x' u l:=h.imp λ_ h=>⟨h.1,aD h.2 hb⟩
theorem cG.le {B B':Nat} {x:World} {u:Value} {l:List Sm.En} (h:cG B' x u l) (hB:B<=B'):cG B x u l:=h.imp λ_ h=>⟨Nat.le_trans hB h.1,h.2⟩
theorem cG.cf {B t:Nat} {x:World} {u:Value} {l:List Sm.En} {cs:List Value} (h:cG B x u l) (hk:ak x t 369 cs) (i:Nat) (v:Value):cG B (x.setCell (ae t i) v) u l:=h.imp λ_ h=>⟨h.1,Ad.cJ h.2 hk dc i v⟩
def JS (B:Nat) (l:List Sm.En) (x:World) (t:Nat):Prop:=∃v,ak x t 369 [i6 1,i6 0,.bool true,v]/\cG B x v l
def Es (B:Nat) (l:List Sm.En) (i:Nat) (a:Act) (x x':World):Prop:=(i≠21->Bw x x')/\(∀u,cG B x u l->cG B x' u l)/\(i=21->∀t,a.tmps.getD 14 undef=pt t 0->JS B l x' t)
theorem Es.of {B:Nat} {l:List Sm.En} {i:Nat} {a:Act} {x x':World} (hi:i≠21) (hb:Bw x x'):Es B l i a x x':=⟨λ_=>hb,λ_ h=>cG.ext h hb,λe=>absurd e hi⟩
theorem xG (g:Nat) (vr ve vb:Value) (l:List Sm.En) (bl:List (List UInt8)) (hr:bw w w.heap.size 3 vr 1 (eh g)) (he:bP w w.heap.size ve l) (hb:oL w w.heap.size vb bl)
 (hl:l.length=5) (ho:wX ⟨1,0,true,l⟩ bl=true) (hH:a7 w):
 Calls prog 244 #[vr,i6 1,ve,vb] w (mA w g vb l bl):=by
 have H:=jd hr he hb hH;have HO:=jb hl ho;clear hr he hb hl ho hH;obtain⟨Ae,ce,rfl,_,_,_⟩:=H.b.open_;obtain⟨Ab,cb,rfl,_,_,_⟩:=H.c.open_;obtain⟨Ar,cr,rfl,_,_,_,hx⟩:=H.a;obtain⟨br,Aw,rfl,BQ,Bg⟩:=hx dc;have Bt:=G4;go_enter func244,ntmps244;go_upto_region 2 with fail
 have A1:=(ak.new w 371 (madeCells #[i6 0,.slice none 0 0,i6 0,i6 0,i6 0,.bool false,.slice none 0 0,.slice none 0 0,.slice none 0 0] 9)).own (base:=w.heap.size) lh 0 1 9 (by rw[Array.length_toList];exact size_madeCells _ _) (Nat.zero_le _) (by rw[aq];omega);rw[Nat.zero_mul,List.take_zero]at A1;have b1:=(Below.refl w.heap.size w).alloc lh (.cells (madeCells #[i6 0,.slice none 0 0,i6 0,i6 0,i6 0,.bool false,.slice none 0 0,.slice none 0 0,.slice none 0 0] 9) 371);generalize w.alloc (.cells (madeCells #[i6 0,.slice none 0 0,i6 0,i6 0,i6 0,.bool false,.slice none 0 0,.slice none 0 0,.slice none 0 0] 9) 371)=w1 at*;obtain⟨q,hq⟩:=ex w.heap.size;have HQ:=ja hq;rw[hq]at A1 b1|-;have H1:=jb A1 b1;clear A1 b1 hq Bt;go_wp2;go_loopw [2,3,10,11,12,13,14,15,16,22] (λu2 u3 u10 _ _ _ _ _ _ u wr=>(u=i6 0/\u2=.slice Ae l.length ce/\u3=.slice Ab bl.length cb/\u10=.slice (some ⟨q,0,none⟩) 0 1/\w1=wr)\/(u=i6 1/\mA w g (.slice Ab bl.length cb) l bl (.returned (.tuple #[u10,i6 0])) wr)) (λ_ _ _ _ _ _ _ _ _ u _=>1-(RowKit.intOf u).toNat)
 case atStart=>exact .inl ⟨rfl,rfl,rfl,rfl,rfl⟩
 case round=>
  rcases hrel with⟨rfl,rfl,rfl,rfl,rfl⟩|⟨rfl,hd⟩
  ·have y:=λj u h=>cl H1.b (by show br<q;rw[<-HQ.a];exact BQ) (Bg j u h);have y0:w1.cell? (ae br Aw)=some (i6 1):=y 0 _ rfl;have y1:=y 1 _ rfl;have y2:=y 2 _ rfl;clear y;(go_upto_region 5 with fail);obtain⟨w2,e2,k2,b2,s2⟩:=ax w1 358 #[i6 1,.slice (some ⟨g,0,none⟩) 5 5,i6 0] _ rfl;rw[e2];obtain⟨r,hr⟩:=ex w1.heap.size;rw[hr]at k2 b2 s2|-;have AR:q<r/\q=w.heap.size:=(by have:=(H1.a.lt q rfl).2;have:=HQ.a;omega);have H2:=Lib.hid (⟨k2,aD H1.a (show Below _ _ _ from hr▸b2),H1.b.trans (b2.mono om),s2,AR⟩:_/\_/\_/\_/\_);have z1:=k2.cell 1;have Aa:bl.length=5:=(by have:=HO.b;unfold wX at this;simp only[Bool.and_eq_true,beq_iff_eq]at this;exact this.1.1.trans HO.a);have Ad:=HO.a;have Ax:5<=ce/\5<=cb:=(by omega);rw[Ad,Aa];have HL:=jc Ad Aa Ax;clear e2 k2 b2 s2 AR y0 y1 y2 hr Ad Aa Ax;(go_upto_region 8 with fail);have HE:=ja (show bP w w.heap.size (.slice Ae 5 ce) l by have:=H.b;rwa [HL.a]at this);have Bu:=ja (show oL w w.heap.size (.slice Ab 5 cb) bl by have:=H.c;rwa [HL.b]at this);have B0:=ja HO.b;have A3:Bw w2 w2.drew:=bh.drew;clear z1;have B1:=λW=>Ct Ae 5 ce 5 HL.c.1 5 rfl W;have B2:=λW=>xH Ab 5 cb 5 HL.c.2 5 rfl W;refine fP 23 [(ey (i6 1)),(ey (i6 0)),(ey (i6 1)),(ey (pt r 2)),(ey (i6 0)),(ey (i6 0)),(ey (.slice (some ⟨br,Aw,none⟩) 1 cr)),(ey (i6 1)),(ey (i6 0)),(ey (.bool true)),(ey (.slice Ae 5 ce)),(ey (i6 5)),(ey (.slice Ae 5 ce)),(ey (.slice Ab 5 cb)),(ey (i6 5)),(ey (.slice Ab 5 cb)),(λ_=>λu R=>∃v,u=.tuple #[.agg #[i6 1,i6 0,.bool true,v],i6 0]/\cG w2.heap.size R v (gD l bl)),(λ_=>λu R=>∃v,u=.tuple #[.agg #[i6 1,i6 0,.bool true,v],i6 0]/\cG w2.heap.size R v (gD l bl)),(λ_=>λu R=>∃v,u=.agg #[i6 1,i6 0,.bool true,v]/\cG w2.heap.size R v (gD l bl)),(ey (i6 0)),(λf_ u R=>∃t,u=pt t 0/\w2.heap.size<=t/\(f_ 21=false->ak R t 369 [i6 0,i6 0,.bool false,.slice none 0 0])/\(f_ 21=true->JS w2.heap.size (gD l bl) R t)),(ey undef),(ey (i6 0))]
    (λ_ R=>Bw w2 R) (λi_ a_ R x'=>Es w2.heap.size (gD l bl) i_ a_ R x') kj rfl kj ?_ ?_ ?_ ?_
   ·exact A3
   ·intro i_ j_ d_ f_ a_ R x' EX hd hv hE;rcases j_ with _|_|_|_|_|_|_|_|_|_|_|_|_|_|_|_|_|_|_|_|_|_|_|j_;all_goals first|exact hv|skip
    ·obtain⟨v,h1,o⟩:=hv;exact⟨v,h1,hE.2.1 _ o⟩
    ·obtain⟨v,h1,o⟩:=hv;exact⟨v,h1,hE.2.1 _ o⟩
    ·obtain⟨v,h1,o⟩:=hv;exact⟨v,h1,hE.2.1 _ o⟩
    ·obtain⟨t,h1,o,h3,h4⟩:=hv;obtain rfl:14=d_:=Option.some.inj hd;by_cases hi:i_=21
     ·subst hi;exact⟨t,h1,o,λe=>by simp at e,λ_=>hE.2.2 rfl t h1⟩
     ·have hf: (decide (21=i_)||f_ 21)=f_ 21:=(by rw[decide_eq_false (λe=>hi e.symm),Bool.false_or]);refine⟨t,h1,o,λe=>(h3 (hf▸e)).ext (hE.1 hi),λe=>?_⟩;obtain⟨v,k1,k2⟩:=h4 (hf▸e);exact⟨v,k1.ext (hE.1 hi),hE.2.1 _ k2⟩
   ·refine⟨lz [] [1],lz [] [11],lz [0,35,1,36] [],lz [] [12],lx [3,38] [] λf x hG=>(H2.out.1.ext hG).cell 2,lz [] [11],lz [] [0],lz [6,41] [],lz [7,42] [],lz [5,40,8,43] [],lz [] [2],lz [] [13],lx [10,45,11,46] [] λf x hG=>B1 x,lz [] [3],lz [] [13],lx [13,48,14,49] [] λf x hG=>B2 x,?_,?_,?_,?_,?_,?_,lz [19,53] [],trivial⟩
    ·intro f a x A' J I hG hd hs K hK;have F':_=_:=hd 2 37 kj;have F0:_=_:=hd 4 39 kj;have F1:_=_:=hd 9 44 kj;have F2:_=_:=hd 12 47 kj;have F3:_=_:=hd 15 50 kj;clear hd hs J I;refine pj ?_;go_simp;have A4:Bw w x:=(by have o:=H2.out.2.2.1;rw[<-HQ.a]at o;exact o.trans (hG.mono o.size));refine(SmW.Lq 1 0 true _ _ l bl x ((HE.a.below A4).more A4.size) ((Bu.a.ext lh A4).more A4.size) (H.d.ext A4)).mono ?_;rintro e x' (⟨u,er,rfl,_,rfl,hn,hb⟩|⟨rfl,hf,_⟩)
     ·exact hK _ _ ⟨_,rfl,cG.le hn hG.size⟩ (hG.trans (hb.mono hG.size)) (Es.of dc hb)
     ·rw[B0.a]at hf;cases hf
    ·intro f a x A' J I hG hd hs K hK;have By:=hd 16 51 kj;clear hd hs J I;refine pj ?_;obtain⟨v,hv,hn⟩:=By;have B3:=aA hv;go_simp;exact hK _ _ ⟨_,rfl,hn⟩ hG (Es.of dc bh)
    ·intro f a x A' J I hG hd hs K hK;have Ao:=hd 17 34 kj;clear hd hs J I;refine pj ?_;obtain⟨v,hv,hn⟩:=Ao;have B3:=aA hv;go_simp;exact hK _ _ ⟨_,rfl,hn⟩ hG (Es.of dc bh)
    ·intro f a x A' J I hG hd hs K hK;have Ao:=hd 17 34 kj;clear hd hs J I;refine pj ?_;obtain⟨v,hv,hn⟩:=Ao;have B3:=aA hv;go_simp;exact hK _ _ rfl hG (Es.of dc bh)
    ·intro f a x A' J I hG hd hs K hK;have n20:f 20=false:=A';have n21:f 21=false:=I.no 21 20 14 n20 kj;clear hd hs J I;refine pj ?_;go_simp;refine hK _ _ ⟨_,rfl,hG.size,λ_=>ak.new _ _ _,λe=>?_⟩ (hG.alloc hG.size _) (Es.of dc (bh.alloc lh _));replace e: (decide (21=20)||f 21)=true:=e;rw[n21]at e;cases e
    ·intro f a x A' J I hG hd hs K hK;have n21:f 21=false:=A';have B4:=hd 20 14 kj;have C4:=hd 18 52 kj;clear hd hs J I;refine pj ?_;obtain⟨t,ht,A2,hz,_⟩:=B4;obtain⟨v,hv,B',CC,hn⟩:=C4;obtain⟨Av,cv,rfl⟩:=dZ hn;replace hz:=hz n21;have c0:=hz.cell 0;have c1:=hz.cell 1;have c2:=hz.cell 2;have c3:=hz.cell 3;have f0:=hz.frozen;go_simp;have q1:=hz.aC 0 (i6 1);have q2:=q1.aC 1 (i6 0);have q3:=q2.aC 2 (.bool true);have q4:=q3.aC 3 (.slice Av (gD l bl).length cv);have cf:∀u,cG w2.heap.size x u (gD l bl)->cG w2.heap.size _ u (gD l bl):=λu hu=>cG.cf (cG.cf (cG.cf (cG.cf hu hz 0 (i6 1)) q1 1 (i6 0)) q2 2 (.bool true)) q3 3 (.slice Av (gD l bl).length cv);refine hK _ _ rfl ((((hG.setCell (p:=ae t 0) A2 _).setCell (p:=ae t 1) A2 _).setCell (p:=ae t 2) A2 _).setCell (p:=ae t 3) A2 _) ⟨λh=>absurd rfl h,cf,λ_ t' ht'=>?_⟩;rw[ht]at ht';cases ht';exact⟨_,q4,cf _ ⟨B',CC,hn⟩⟩
   ·intro x hG;replace hG: (λ_ R=>Bw w2 R) (λj=>decide (j<23)) x:=hG;(try dsimp only at hG);(iterate 16 rintro _ rfl);rintro F4 B5 F5 B6 F6 B7 _ rfl v20 B8 _ rfl;simp only[ap];(try simp only[Exit.then]);obtain⟨t,rfl,ht,_,A5⟩:=B8;obtain⟨v,kt,hn⟩:=A5 rfl;obtain⟨Av,cv,rfl⟩:=dZ hn.choose_spec.2;have AR:=H2.out.2.2.2.2;have hx:=H2.out.2.2.1.trans (hG.mono (oa H2.out.2.2.1.size));rw[<-HQ.a]at hx;have HX:=jf kt hn (H2.out.1.ext hG) (aD H2.out.2.1 hG) hx ht;clear hG A3 B5 B6 B7 A5 B1 hx;obtain⟨c0,c1,c2,c3⟩:_/\_/\_/\_:=⟨kt.cell 0,kt.cell 1,kt.cell 2,kt.cell 3⟩;clear kt hn ht;(go_wp2_with fail);have B9:bP x x.heap.size (.slice Av (gD l bl).length cv) (gD l bl):=bw.aG (sz:=4) HX.b.choose_spec.2;refine(SmW.wu 1 0 _ (gD l bl) x B9 (Mv 1 0 true l bl) (NU B0.a) (H.d.ext HX.e)).mono ?_;rintro e x3 ⟨uh,rfl,Aq,b3⟩;obtain⟨Ah,ch,rfl⟩:∃A c,uh=.slice A (Sm.MV ⟨1,0,true,gD l bl⟩).length c:=(by obtain⟨A,c,e,_⟩:=Aq.1;exact⟨A,c,e⟩);have U:=jf (HX.a.ext b3) (cG.ext HX.b b3) (HX.c.ext b3) (aD HX.d b3) (HX.e.trans (b3.mono HX.e.size)) Aq;clear c0 c1 c2 c3 B9 Aq b3;(go_upto_region 14 with fail);obtain⟨hl,As⟩:=ex (Sm.MV ⟨1,0,true,gD l bl⟩);have Cd:=ja (show hl.length=128 by rw[<-As];refine Crc.bH _ ?_;rw[Sm.zE];have: (gD l bl).length=5:=(by unfold gD;rw[List.length_map,SmW.iG];exact HL.a);show 16+8*(gD l bl).length<=124;omega);rw[As]at U|-;clear As;have A3:Bw x3 x3.drew:=bh.drew;refine aQ 11 9 [(ez (.slice (some ⟨w.heap.size,0,none⟩) 0 1)),(ez (.agg #[i6 1,.slice (some ⟨g,0,none⟩) 5 5,i6 0])),(ez (.agg #[i6 1,i6 0,.bool true,.slice Av (gD l bl).length cv])),(ez (.slice Ah hl.length ch)),(ez (.slice Ab 5 cb)),(ez (i6 5)),(ez (.slice Ab 5 cb)),(ez (.agg (cF g (.slice Av (gD l bl).length cv) (.slice Ah hl.length ch) (.slice Ab 5 cb)).toArray)),(λu R=>∃p,u=.slice (some ⟨p,0,none⟩) 1 1/\ak R p 371 (cF g (.slice Av (gD l bl).length cv) (.slice Ah hl.length ch) (.slice Ab 5 cb))/\x3.heap.size<=p)]
     (λR=>Bw x3 R) kj rfl dc kj kj ?_ ?_ ?_ ?_
    ·exact A3
    ·exact⟨ah _,ah _,ah _,ah _,ah _,ah _,ah _,ah _,λ_ _ _ ⟨g,h1,o,h3⟩ hb=>⟨g,h1,o.ext hb,h3⟩,trivial⟩
    ·refine⟨rz [] [10],?_,?_,rz [] [16],rz [] [3],rz [] [13],rx [4,67,5,68] [] λx hG=>B2 x,?_,?_,trivial⟩
     ·intro a x hG hd hs K hK;have F7:a.tmps.getD 12 undef=pt r 0:=hs 12 kj;clear hd hs;refine pj ?_;have k:=U.c.ext hG;have c0:=k.cell 0;have c1:=k.cell 1;have c2:=k.cell 2;go_simp;exact hK _ _ rfl hG bh
     ·intro a x hG hd hs K hK;have B4:a.tmps.getD 14 undef=pt t 0:=hs 14 kj;clear hd hs;refine pj ?_;have k:=U.a.ext hG;have c0:=k.cell 0;have c1:=k.cell 1;have c2:=k.cell 2;have c3:=k.cell 3;go_simp;exact hK _ _ rfl hG bh
     ·intro a x hG hd hs K hK;have Co:a.tmps.getD 64 undef=.agg #[i6 1,.slice (some ⟨g,0,none⟩) 5 5,i6 0]:=hd 1 64 kj;have E7:=aA Co;have D0:a.tmps.getD 65 undef=.agg #[i6 1,i6 0,.bool true,.slice Av (gD l bl).length cv]:=hd 2 65 kj;have E8:=aA D0;have D3:a.tmps.getD 66 undef=.slice Ah hl.length ch:=hd 3 66 kj;have E9:=aA D3;have D5:a.tmps.getD 69 undef=.slice Ab 5 cb:=hd 6 69 kj;have EC:=aA D5;clear hd hs;refine pj ?_;go_simp;exact hK _ _ rfl hG bh
     ·intro a x hG hd hs K hK;have E1:_=_:=hd 7 70 kj;have EK:=aA E1;clear hd hs;refine pj ?_;go_simp;exact hK _ _ ⟨_,rfl,ak.new x _ _,hG.size⟩ (hG.alloc hG.size _) (bh.alloc lh _)
    ·intro x hG;(iterate 8 rintro _ rfl);rintro v8 E4;simp only[ap];rw[show List.range' 9 (11-9)=[9,10]from rfl,wpOps_cons];obtain⟨p,rfl,kn,hp⟩:=E4;obtain rfl:=HQ.a;have A6:=aD U.d hG;have hr:=kn.fe 0 1 1 9 (by show 0+1*9<=9;decide) lh (by simp[maxLen]);rw[List.drop_zero,List.take_of_length_le (show(9:Nat)<=1*9 by decide)]at hr;have BB:w.heap.size<=x.heap.size:=Nat.le_trans U.e.size hG.size;obtain⟨v',wa,A7,A0,A8,_⟩:=aE (P:=prog) (ty:=361) underlying361 qH rfl dc A6 hr (by unfold cF eh;simp[Value.oneCell']) (by rw[aq];decide) dc om;refine pj ?_;refine c_ 63 71 361 rfl rfl rfl A7 ?_;rw[wpOps_cons];refine pj ?_;obtain⟨A9,c9,rfl⟩:=dZ A0;have hT:af (· =w.heap.size) x wa:=af.bt A8 λ_ e=>(Option.some.inj e).symm;have A2:=HX.a.lt;have hle:=HX.f;have E5:=H2.out.2.2.2;have AI:=U.f;have BO:cG w.heap.size wa (.slice Av (gD l bl).length cv) (gD l bl):=(by obtain⟨B',h1,o⟩:=cG.ext U.b hG;have h3:w.heap.size<B':=(by omega);refine⟨B',by omega,Dv.aJ o hT λb hb e=>?_⟩;have e:b=w.heap.size:=e;have:=(o.lt b hb).1;omega);have HD:=ja (show mA w g (.slice Ab 5 cb) l bl (.returned (.tuple #[.slice A9 1 c9,i6 0])) wa from
      ⟨_,.slice Av (gD l bl).length cv,.slice Ah hl.length ch,hl,rfl,A0,BO,⟨(hT.fe (AI.ext hG).1 lh (λb hb e=>by have e:b=w.heap.size:=e;have:=AI.2 b hb;omega)).more hT.size,λb hb=>by have:=AI.2 b hb;omega⟩,Cd.a,(U.e.trans (hG.mono U.e.size)).grown A8 BB (λj e=>by cases e;exact Nat.le_refl _)⟩)
     have F8:=λW=>BU Ae 5 ce 5 dc 5 rfl W;have FZ:=λW=>yF Ab 5 cb 5 dc 5 rfl W;clear hT A2 hle E5 AI BO A8 A7 A0 A6 hr kn hG A3 BB hp;go_simp;unfold wpOps;simp only[Exit.then];(go_upto_region 15 with fail);go_quiet (fail);go_wp2;go_roundw;case rel=>exact .inr ⟨by go_num,by rw[HL.b];exact HD.a.ext (below_drewN (Below.refl _ wa) _)⟩
     case measure=>simp[RowKit.intOf]
  ·obtain⟨v,u,h,E6,e,Au⟩:=hd;cases e;go_wp2;go_ret2;exact⟨_,u,h,E6,rfl,Au⟩
end
end Co
namespace Co
open Go.RowKit
attribute [local go_sem] Oper.semAt_some
theorem L9 (q:Nat) (w:World):
 CallsD prog 279 #[pt q 0] .returning w λe u' w'=>u'=.returning/\(e=.returned (.tuple #[])/\w'=w):=by
 refine callsD_of_wpS func279 rfl λI cs hu=>?_;apply wpS_seq;apply wpS_region;simp[wpOpsS,go_sem,recoverD,hu,ntmps279,Exit.thenS];refine wpS_cond (t:=false) (by simp[Act.eval,Array.replicate]) ?_;refine wpS_of_wp (wp_skip ?_);cases I;simp_all [bodyPostS,results,results279,go_sem]
theorem I1 (fv:Fn) (a b:Array Value) (W:World): (binOp .eql 330 (.func fv a b) .nilFunc).run prog W=.ok (.bool false) W:=by kernel_rfl
section
variable {w:World}
theorem xQ (fn:Nat) (caps:Array Value) (A:Option Addr) (n k:Nat) (hcf:∀args x,(callFunc fn args).run prog x=.ok (.enter fn args) x) (R:Value->World->Prop)
 (hdo:∀x,Below w.heap.size w x->x.heap.size=w.heap.size+1->Calls prog fn (#[.slice A n k]++caps) x λe x'=>∃A' n' k',e=.returned (.slice A' n' k')/\x'.heap[w.heap.size]? =x.heap[w.heap.size]? /\R (.slice A' n' k') x')
 (hR:∀v x u,R v x->R v (x.setCell (ae w.heap.size 0) u)):
 Calls prog 243 #[.func (.func fn) #[] caps,.slice A n k] w λe w'=>∃A' n' k',e=.returned (.slice A' n' k')/\R (.slice A' n' k') w':=by
 have o:=ja hdo;have J:=ja hR;clear hdo hR;have A1:∀(fn:Fn) (first cap:Array Value) (w:World),(Instr.makeFunc fn first cap).run prog w=.ok (.func fn first cap) w:=λ_ _ _ _=>rfl;have A2:=I1;go_enter_defers func243,ntmps243;go_upto_region 1 with fail
 obtain⟨q,j⟩:=ex w.heap.size;obtain⟨w0,e0,k0,b0,s0⟩:=ax w 250 #[.slice none 0 0] q j;rw[e0,j];have I:=ja (o.a w0 (show Below _ _ _ from j▸b0) om);rw[j]at I J;clear e0 b0 s0;have x0:=k0.cell 0;go_wp2_with fail
 refine I.a.mono ?_;rintro e w1 ⟨A',n',k',rfl,U,hr⟩;have k1:ak w1 q 250 [.slice none 0 0]:=U.trans k0;have A0:=ja (J.a _ _ (.slice A' n' k') hr);have y0:=k1.cell 0;have f0:=k1.frozen 0;have K1:=ja (k1.aC 0 (.slice A' n' k'));clear x0 k0 k1 U hr I;go_wp2;refine leaves_cons sj rfl ((L9 q _).mono ?_);rintro e u' w' ⟨rfl,rfl,rfl⟩;have z0:=K1.a.cell 0;simp[Leaves,settle,results,results243,go_sem,z0];exact⟨_,_,_,⟨rfl,rfl,rfl⟩,A0.a⟩
end
end Co
namespace Co
open Go.RowKit
attribute [local go_sem] Oper.semAt_some
section
variable {w:World}
def pG (g:Nat) (u h b:Value):Array Value:=#[i6 0,.agg (cF g u h b).toArray]
theorem zL (n:Nat) (hn:1<=n) (l bl b off c g:Nat) (A1 A2 A3:Option Addr) (n1 n2 n3 c1 c2 c3:Nat) (R:World->Prop) (W:World)
 (hY:∀k W1,Bw W W1->True->YieldAt Fence.wide (n-1) prog l ((λ_:Nat=>pG g (.slice A1 n1 c1) (.slice A2 n2 c2) (.slice A3 n3 c3)) k) W1 λe W'=>e=.returned (.bool true)/\R W')
 (k1:ak W bl 361 [.slice (some ⟨b,off,none⟩) 1 c]) (hb:b<W.heap.size) (hc:∀(j:Nat) (x:Value),(cF g (.slice A1 n1 c1) (.slice A2 n2 c2) (.slice A3 n3 c3))[j]? =some x->W.cell? (ae b (off+j))=some x):
 CallsIn Fence.wide n prog 283 #[.func (.yield l) #[] #[],pt bl 0] W λe W'=>(∃v,e=.returned v)/\R W':=by
 refine callsIn_of_wp func283 rfl trivial ?_ rfl;simp only[ntmps283,List.size_toArray,List.length_cons,List.length_nil,Nat.reduceAdd,Nat.reduceSub,Array.replicate_succ,Array.replicate_zero,List.push_toArray,List.append_toArray,List.nil_append,List.cons_append];have x1:=k1.cell 0;gi_wp2;clear x1;gi_loopw [3,4,7] (λ_ _ U wr=>(U=i6 0/\W=wr)\/(U=i6 1/\R wr)) (λ_ _ U _=>1-(intOf U).toNat);case atStart=>exact .inl ⟨rfl,rfl⟩
 case round=>
  rcases hrel with⟨rfl,rfl⟩|⟨rfl,o⟩
  ·have y0:W.cell? (ae b off)=_:=hc 0 _ rfl;have y1:=hc 1 _ rfl;have y2:=hc 2 _ rfl;have y3:=hc 3 _ rfl;have y4:=hc 4 _ rfl;have y5:=hc 5 _ rfl;have y6:=hc 6 _ rfl;have y7:=hc 7 _ rfl;have y8:=hc 8 _ rfl;gi_upto_region 3 with fail;obtain⟨w2,e2,k2,b2,_⟩:=ax W 371 (cF g (.slice A1 n1 c1) (.slice A2 n2 c2) (.slice A3 n3 c3)).toArray _ rfl;have I:=e2;unfold cF eh at I;simp only[List.cons_append,List.nil_append]at I;rw[I];obtain⟨fn,tmps,assign,body,hy,J⟩:=hY 0 w2 b2 trivial;unfold pG at hy;have HR:=ja J;have z:=λi=>k2.cell i;obtain⟨z0,z1,z2,z3,z4,z5,z6,z7,z8⟩:_/\_/\_/\_/\_/\_/\_/\_/\_:=⟨z 0,z 1,z 2,z 3,z 4,z 5,z 6,z 7,z 8⟩;unfold cF eh at*;simp only[List.cons_append,List.nil_append]at*;clear J e2 I k2 b2 z y0 y1 y2 y3 y4 y5 y6 y7 y8;gi_wp2;refine HR.a.mono ?_;rintro e W3 ⟨rfl,o⟩;gi_wp2;go_roundw;case rel=>exact .inr ⟨by go_num,o⟩
   case measure=>simp[intOf]
  ·gi_wp2;go_end0;exact⟨⟨_,rfl⟩,o⟩
theorem mh (w:World) (A:Option Addr) (n k:Nat):
 Calls prog 246 #[.slice A n k] w λe w'=>e=.returned (.func (.func 283) #[] #[pt w.heap.size 0])/\w'=w.alloc (.cells #[.slice A n k] 361):=by
 go_enter func246,ntmps246;go_wp2;go_ret;exact⟨rfl,rfl⟩
end
end Co
namespace LabW
open Go.RowKit
theorem gH (wd z:Int) (v:Nat) (hz:z=v) (w:World) (hv:v<9223372036854775808):
 Calls prog 102 #[i6 wd,i6 z] w λe w'=>e=.returned (.agg #[i6 wd,.int .u64 (v:Int)])/\Bw w w':=by
 subst hz;exact F_ wd v w hv
theorem yP (g d l vo s:Nat) (w:World) (hk:ak w g 60 [i6 (d:Int),i6 (l:Int),i6 (vo:Int),i6 (s:Int)]) (hH:a7 w) (hgeo:Lb.sC d l vo s=true):
 Calls prog 100 #[pt g 0] w λe w'=>∃u,e=.returned (.tuple #[u,i6 0])/\ju w.heap.size w' u (Lb.za d l vo s)/\Bw w w':=by
 have A8:d<=256/\l<=256/\vo<=8/\s<=256:=by unfold Lb.sC at hgeo;rw[decide_eq_true_iff]at hgeo;omega
 have HC:=ja (Lb.I7 d l vo s hgeo);clear hgeo;go_enter func100,ntmps100;go_wp2_with fail
 have A0:Bw w w.drew:=bh.drew;refine wp_region_list 19 [(ez (.agg #[i6 4,.int .u64 ((1751218541:Nat):Int)])),(ez (pt g 0)),(ez (i6 ((d:Nat):Int))),(ez (.agg #[i6 2,.int .u64 ((d:Nat):Int)])),(ez (pt g 1)),(ez (i6 ((l:Nat):Int))),(ez (.agg #[i6 2,.int .u64 ((l:Nat):Int)])),(ez (pt g 2)),(ez (i6 ((vo:Nat):Int))),(ez (.agg #[i6 1,.int .u64 ((vo:Nat):Int)])),(ez (pt g 3)),(ez (i6 ((s:Nat):Int))),(ez (.agg #[i6 2,.int .u64 ((s:Nat):Int)])),(λu x=>ee x x.heap.size u (Lb.qz.zip (Lb.qn d l vo s))),(λu x=>∃q,u=.tuple #[q,i6 0]/\ju w.heap.size x q (Lb.za d l vo s)),(λu x=>ju w.heap.size x u (Lb.za d l vo s)),(ez (i6 0)),(λu x=>ju w.heap.size x u (Lb.za d l vo s)),(ez (i6 0))]
  (λx=>Bw w x) kj rfl kj ?_ ?_ ?_ ?_
 ·exact A0
 ·exact⟨ah _,ah _,ah _,ah _,ah _,ah _,ah _,ah _,ah _,ah _,ah _,ah _,ah _,λ_ _ _ h I=>bw.more (bw.ext h lh I) I.size,λ_ _ _ ⟨q,h1,h2⟩ I=>⟨q,h1,h2.ext I⟩,λ_ _ _ h I=>h.ext I,ah _,λ_ _ _ h I=>h.ext I,ah _,trivial⟩
 ·refine⟨?_,rz [] [0],rx [1,4] [] λx hG=>((cl hG hk.lt (hk.cell 0)):x.cell? (ae g 0)=some (i6 (d:Int))),?_,rz [] [0],rx [4,7] [] λx hG=>((cl hG hk.lt (hk.cell 1)):x.cell? (ae g 1)=some (i6 (l:Int))),?_,rz [] [0],rx [7,10] [] λx hG=>((cl hG hk.lt (hk.cell 2)):x.cell? (ae g 2)=some (i6 (vo:Int))),?_,rz [] [0],rx [10,13] [] λx hG=>((cl hG hk.lt (hk.cell 3)):x.cell? (ae g 3)=some (i6 (s:Int))),?_,?_,?_,?_,?_,?_,rz [16,19] [],trivial⟩
  ·intro a x hG hd hs K hK;clear hd hs;refine pj ?_;go_simp;exact(gH 4 _ 1751218541 rfl _ om).mono rj
  ·intro a x hG hd hs K hK;have h5:_=_:=hd 2 5 kj;clear hd hs;refine pj ?_;go_simp;exact(gH 2 _ d rfl _ om).mono rj
  ·intro a x hG hd hs K hK;have h8:_=_:=hd 5 8 kj;clear hd hs;refine pj ?_;go_simp;exact(gH 2 _ l rfl _ om).mono rj
  ·intro a x hG hd hs K hK;have A9:_=_:=hd 8 11 kj;clear hd hs;refine pj ?_;go_simp;exact(gH 1 _ vo rfl _ om).mono rj
  ·intro a x hG hd hs K hK;have AI:_=_:=hd 11 14 kj;clear hd hs;refine pj ?_;go_simp;exact(gH 2 _ s rfl _ om).mono rj
  ·intro a x hG hd hs K hK;have h3:_=_:=hd 0 3 kj;have AR:=aA h3;have h6:_=_:=hd 3 6 kj;have Aa:=aA h6;have h9:_=_:=hd 6 9 kj;have Ab:=aA h9;have A1:_=_:=hd 9 12 kj;have A3:=aA A1;have A2:_=_:=hd 12 15 kj;have A4:=aA A2;clear hd hs;refine pj ?_;go_simp;exact hK _ _ (bw.more (ee.lit x _ _ (Lb.qz.zip (Lb.qn d l vo s)) 5 rfl rfl (by simp[maxLen])) sj) (hG.alloc hG.size _) (bh.alloc lh _)
  ·intro a x hG hd hs K hK;have j:=hd 13 16 kj;clear hd hs;refine pj ?_;obtain⟨uu,R⟩:=ex (a.tmps.getD 16 undef);rw[R]at j;go_simp;refine(rA _ _ (Lb.qz.zip (Lb.qn d l vo s)) (hH.ext hG) j (show 5<=100 by omega) (pC HC.a) HC.a (by rw[Lb.uI];omega)).mono ?_;rintro e w' ⟨q,rfl,J,I⟩;exact hK _ _ ⟨q,rfl,J.le hG.size⟩ (hG.trans (I.mono hG.size)) I
  ·intro a x hG hd hs K hK;have U:=hd 14 17 kj;clear hd hs;refine pj ?_;obtain⟨q,hq,J⟩:=U;go_simp;exact hK _ _ J hG bh
  ·intro a x hG hd hs K hK;have U:=hd 14 17 kj;clear hd hs;refine pj ?_;obtain⟨q,hq,J⟩:=U;go_simp;exact hK _ _ rfl hG bh
  ·intro a x hG hd hs K hK;have o:=hd 15 18 kj;clear hd hs;refine pj ?_;obtain⟨uu,R⟩:=ex (a.tmps.getD 18 undef);rw[R]at o;go_simp;exact hK _ _ o hG bh
 ·intro x hG;(iterate 13 rintro _ rfl);rintro Ad A5 Ae A6 Ah A7 _ rfl Ao A' _ rfl;simp only[ap];(try simp only[Exit.then]);go_wp2;go_ret2;exact⟨_,rfl,A',hG⟩
theorem yC (g g2 vo ge:Nat) (w:World) (hk:w.cell? (ae g 0)=some (i6 (vo:Int))) (hk2:w.cell? (ae g2 0)=some (i6 (ge:Int))) (hl:g<w.heap.size) (hl2:g2<w.heap.size) (hH:a7 w) (hlab:Lb.lV vo ge=true):
 Calls prog 110 #[pt g 0,pt g2 0] w λe w'=>∃u,e=.returned (.tuple #[u,i6 0])/\ju w.heap.size w' u (Lb.xZ vo ge)/\Bw w w':=by
 have A0:vo<=8/\ge<=4294967295:=by unfold Lb.lV at hlab;rw[decide_eq_true_iff]at hlab;omega
 have HC:=ja (Lb.Hl vo ge hlab);clear hlab;go_enter func110,ntmps110;go_wp2_with fail
 have o:Bw w w.drew:=bh.drew;refine wp_region_list 11 [(ez (.agg #[i6 4,.int .u64 ((1752592236:Nat):Int)])),(ez (i6 ((vo:Nat):Int))),(ez (.agg #[i6 1,.int .u64 ((vo:Nat):Int)])),(ez (i6 ((ge:Nat):Int))),(ez (.agg #[i6 4,.int .u64 ((ge:Nat):Int)])),(λu x=>ee x x.heap.size u (Lb.uM.zip (Lb.tN vo ge))),(λu x=>∃q,u=.tuple #[q,i6 0]/\ju w.heap.size x q (Lb.xZ vo ge)),(λu x=>ju w.heap.size x u (Lb.xZ vo ge)),(ez (i6 0)),(λu x=>ju w.heap.size x u (Lb.xZ vo ge)),(ez (i6 0))]
  (λx=>Bw w x) kj rfl kj ?_ ?_ ?_ ?_
 ·exact o
 ·exact⟨ah _,ah _,ah _,ah _,ah _,λ_ _ _ h I=>bw.more (bw.ext h lh I) I.size,λ_ _ _ ⟨q,h1,h2⟩ I=>⟨q,h1,h2.ext I⟩,λ_ _ _ h I=>h.ext I,ah _,λ_ _ _ h I=>h.ext I,ah _,trivial⟩
 ·refine⟨?_,rx [] [0] λx hG=>cl hG hl hk,?_,rx [] [1] λx hG=>cl hG hl2 hk2,?_,?_,?_,?_,?_,?_,rz [8,12] [],trivial⟩
  ·intro a x hG hd hs K hK;clear hd hs;refine pj ?_;go_simp;exact(gH 4 _ 1752592236 rfl _ om).mono rj
  ·intro a x hG hd hs K hK;have h5:_=_:=hd 1 5 kj;clear hd hs;refine pj ?_;go_simp;exact(gH 1 _ vo rfl _ om).mono rj
  ·intro a x hG hd hs K hK;have h7:_=_:=hd 3 7 kj;clear hd hs;refine pj ?_;go_simp;exact(gH 4 _ ge rfl _ om).mono rj
  ·intro a x hG hd hs K hK;have h4:_=_:=hd 0 4 kj;have A1:=aA h4;have h6:_=_:=hd 2 6 kj;have A2:=aA h6;have h8:_=_:=hd 4 8 kj;have A3:=aA h8;clear hd hs;refine pj ?_;go_simp;exact hK _ _ (bw.more (ee.lit x _ _ (Lb.uM.zip (Lb.tN vo ge)) 3 rfl rfl (by simp[maxLen])) sj) (hG.alloc hG.size _) (bh.alloc lh _)
  ·intro a x hG hd hs K hK;have h9:=hd 5 9 kj;clear hd hs;refine pj ?_;obtain⟨uu,R⟩:=ex (a.tmps.getD 9 undef);rw[R]at h9;go_simp;refine(rA _ _ (Lb.uM.zip (Lb.tN vo ge)) (hH.ext hG) h9 (show 3<=100 by omega) (pC HC.a) HC.a (by rw[Lb.wI];omega)).mono ?_;rintro e w' ⟨q,rfl,J,I⟩;exact hK _ _ ⟨q,rfl,J.le hG.size⟩ (hG.trans (I.mono hG.size)) I
  ·intro a x hG hd hs K hK;have U:=hd 6 10 kj;clear hd hs;refine pj ?_;obtain⟨q,hq,J⟩:=U;go_simp;exact hK _ _ J hG bh
  ·intro a x hG hd hs K hK;have U:=hd 6 10 kj;clear hd hs;refine pj ?_;obtain⟨q,hq,J⟩:=U;go_simp;exact hK _ _ rfl hG bh
  ·intro a x hG hd hs K hK;have j:=hd 7 11 kj;clear hd hs;refine pj ?_;obtain⟨uu,R⟩:=ex (a.tmps.getD 11 undef);rw[R]at j;go_simp;exact hK _ _ j hG bh
 ·intro x hG;(iterate 5 rintro _ rfl);rintro v5 A4 v6 A5 v7 A6 _ rfl v9 A' _ rfl;simp only[ap];(try simp only[Exit.then]);go_wp2;go_ret2;exact⟨_,rfl,A',hG⟩
theorem pr (K:Nat) (caps:Array Value) (l:List UInt8) (w:World) (hK:∀args w,(callFunc K args).run prog w=.ok (.enter K args) w) (h:Calls prog K caps w (Made l w)):
 Calls prog 99 #[.bool true,.func (.func K) #[] caps] w (Made l w):=by
 go_enter func99,ntmps99;go_wp2_with fail
 refine(Calls.mono (by simpa using h) ?_);rintro e J ⟨u,rfl,hs,I⟩;go_wp2;go_ret2;exact⟨u,rfl,hs,I⟩
theorem BE (d l vo s:Nat) (w:World) (hH:a7 w) (hgeo:Lb.sC d l vo s=true):
 Calls prog 51 #[.agg #[i6 (d:Int),i6 (l:Int),i6 (vo:Int),i6 (s:Int)]] w (Made (Lb.za d l vo s) w):=by
 have R:d<=256:=by unfold Lb.sC at hgeo;rw[decide_eq_true_iff]at hgeo;omega
 go_enter func51,ntmps51;go_wp2_with fail
 have U:=ak.new w 60 #[i6 (d:Int),i6 (l:Int),i6 (vo:Int),i6 (s:Int)];have I:=(Below.refl w.heap.size w).alloc lh (.cells #[i6 (d:Int),i6 (l:Int),i6 (vo:Int),i6 (s:Int)] 60);generalize w.alloc (.cells #[i6 (d:Int),i6 (l:Int),i6 (vo:Int),i6 (s:Int)] 60)=w0 at*;refine(jN d l vo s _ om).mono ?_;rintro e o ⟨rfl,J⟩;rw[hgeo];have c1:=I.trans (J.mono I.size);go_wp2_with fail
 refine(pr 100 _ (Lb.za d l vo s) _ (enters_of func100 kj rfl) (yP _ d l vo s _ (U.ext J) (hH.ext c1) hgeo)).mono ?_;rintro e w2 ⟨u,rfl,hs,j⟩;have c2:=c1.trans (j.mono c1.size);go_wp2;go_ret2;exact⟨_,rfl,hs.le (by first|exact c1.size|exact J.size),c2⟩
theorem BP (vo ge:Nat) (w:World) (hH:a7 w) (hlab:Lb.lV vo ge=true):
 Calls prog 57 #[i6 (vo:Int),i6 (ge:Int)] w (Made (Lb.xZ vo ge) w):=by
 go_enter func57,ntmps57;go_wp2_with fail
 refine(xA _ _ _).mono ?_;rintro e U ⟨rfl,rfl⟩;rw[hlab];go_wp2_with fail
 obtain⟨I,x1,J,j⟩:=jw (w:=w) (i6 (vo:Int)) (i6 (ge:Int)) 3;generalize(w.alloc (.cells #[i6 (vo:Int)] 3)).alloc (.cells #[i6 (ge:Int)] 3)=w0 at*;refine(pr 110 _ (Lb.xZ vo ge) _ (enters_of func110 kj rfl) (yC _ _ vo ge _ x1 J om om (hH.ext I) hlab)).mono ?_;rintro e o ⟨u,rfl,hs,R⟩;have c2:=I.trans (R.mono I.size);go_wp2;go_ret2;exact⟨_,rfl,hs.le (by first|exact c1.size|exact I.size),c2⟩
end LabW
namespace Dv
open Go.RowKit
open Ad (dP box four)
attribute [local go_sem] Oper.semAt_some
section
variable {w w' w'':World} {X X' Y:Nat->Prop} {d d' v v':D}
theorem gm (h:At w X d) (hv:At w Y v) (hd:d.n=336) (hvn:v.n=65) {b c:Nat} (hb:w.cell? (ae b 0)=some (pt v.g 0)):
 Calls prog 50 #[dP,pt d.g 0,.slice (some ⟨b,0,none⟩) 1 c] w λe w'=>e=.returned (.bool true)/\Bw w w':=by
 have H:=jb h hv;have HN:=jb hd hvn;have HB:=ja hb;have R:∀W:World,Bw w W->Calls prog 98 #[pt d.g 0] W λe w'=>e=.returned (i6 336)/\Bw W w':=λW hb=>by have:=ij (H.a.below hb);rw[hd]at this;exact this
 have U:∀W:World,Bw w W->Calls prog 98 #[pt v.g 0] W λe w'=>e=.returned (i6 65)/\Bw W w':=λW hb=>by have:=ij (H.b.below hb);rw[hvn]at this;exact this
 have A':=ja R;have A0:=ja U;unfold dP;clear h hv hd hvn hb R U;go_enter func50,ntmps50;go_upto_region 1 with fail
 obtain⟨k0,b0⟩:=box w;generalize w.alloc (.cells #[i6 20,i6 2,i6 1,i6 4] 60)=w0 at*;obtain⟨g,hg⟩:=ex w.heap.size;rw[hg]at k0|-;have K0:=ja k0;have o:=ja b0;have J:Bw w0 w0.drew:=bh.drew;clear k0 b0 hg;refine wp_region_list 14 [(ez (pt d.g 0)),(ez (i6 336)),(ez (pt g 0)),(ez (i6 20)),(ez (i6 320)),(ez (i6 336)),(ez (.bool false)),(ez (.bool false)),(ez (.slice (some ⟨b,0,none⟩) 1 c)),(ez (i6 1)),(ez (pt g 2)),(ez (i6 1)),(ez (.bool false)),(ez (.bool false))]
  (λq=>Bw w0 q) kj rfl kj ?_ ?_ ?_ ?_
 ·exact J
 ·exact sv
 ·refine⟨rz [] [1],?_,rz [] [3],rx [2,11] [] λx hG=>(K0.a.ext hG).cell 0,rz [3,12] [],rz [4,13] [],rz [1,10,5,14] [],rz [6,15] [],Dh [7,16] [2],Dh [7,16,8,17] [],Dh [7,16] [3],Gq [7,16,10,19] [] λx hG=>(K0.a.ext hG).cell 2,Dh [7,16,9,18,11,20] [],rz [7,16,12,21] [],trivial⟩
  ·intro a x hG hd hs K hK;have h9:_=_:=hd 0 9 kj;clear hd hs;refine pj ?_;go_simp;exact(A'.a _ (o.a.trans (hG.mono o.a.size))).mono rj
 ·intro x hG;(iterate 14 rintro _ rfl);simp only[ap];(try simp only[Exit.then]);have B1:=ja (o.a.trans (hG.mono o.a.size));have K1:=ja (K0.a.ext hG);clear hG J;go_wp2;(go_loopw [8,25] (λ_ u wr=>∃j:Nat,j<=1/\u=i6 (j:Int)/\Bw w wr/\ak wr g 60 [i6 20,i6 2,i6 1,i6 4]) (λ_ u _=>1-(RowKit.intOf u).toNat));case atStart=>exact⟨0,by omega,rfl,B1.a,K1.a⟩
  case round=>
   obtain⟨j,hj,rfl,hb,hk⟩:=hrel;have I:=jb hb hk;have c3:=hk.cell 3;have cb:=cl hb (World.block_lt_of_cell? _ _ HB.a) HB.a;have J:Bw wr wr.drew:=bh.drew;clear hb hk;rcases(show j=0\/j=1 by omega)with rfl|rfl
   ·(go_upto_region 6 with fail);refine wp_region_list 7 [(ez (pt v.g 0)),(ez (i6 65)),(ez (pt g 3)),(ez (i6 4)),(ez (i6 64)),(ez (i6 65)),(ez (.bool false))]
     (λq=>Bw wr q) kj rfl kj ?_ ?_ ?_ ?_
    ·exact J
    ·exact sv
    ·refine⟨rz [] [8],?_,rz [] [3],rx [2,31] [] λx hG=>(I.b.ext hG).cell 3,rz [3,32] [],rz [4,33] [],rz [1,30,5,34] [],trivial⟩
     ·intro a x hG hd hs K hK;have A2:_=_:=hd 0 29 kj;clear hd hs;refine pj ?_;go_simp;exact(A0.a _ (I.a.trans (hG.mono I.a.size))).mono rj
    ·intro x hG;(iterate 7 rintro _ rfl);simp only[ap];(try simp only[Exit.then]);have A1:=Lib.hid (⟨I.a.trans (hG.mono I.a.size),I.b.ext hG⟩:_/\_);clear hG J c3 cb;go_wp2;go_roundw;case rel=>exact⟨1,by omega,rfl,A1.out⟩
     case measure=>simp[RowKit.intOf]
   ·go_wp2;go_ret;exact⟨rfl,I.a⟩
theorem qA {P:Program} {Q:Exit->Act->World->Prop} {o:Oper} {a:Act} {w w':World} {K:Act->World->Prop} {u v':Value} (x:Nat) (t:TypeId) (ho:o.op=.call {callee:=.builtin .append,args:=#[.const (.slice none 0 0),.tmp x],argTypes:=#[t,t]})
 (hx:a.tmps.getD x undef=u) (hrun: (Builtin.append_ #[t,t] o.type #[.slice none 0 0,u]).run P w=.ok v' w') (h:K (a.put o.dst v') w'):o.wp P a w K Q:=by
 have I:a.eval (.tmp x)=u:=hx;unfold Oper.wp execOp;have J:a.eval (.const (.slice none 0 0))=.slice none 0 0:=rfl;simp only[ho,resolve,invoke,builtin,Sem.run_bind,Sem.run_pure,Result.andThen_ok,List.map_toArray,List.map_cons,List.map_nil,J,I,hrun];exact h
theorem s_ (dg:Nat) (A:Option Addr) (c:Nat) (W:World):
 (Instr.build 129 #[(0,dP),(1,pt dg 0),(2,.slice A 1 c)]).run prog W=.ok (.agg #[i6 20,i6 2,i6 1,i6 4,pt dg 0,.slice A 1 c,i6 0,i6 0,i6 0,i6 0,i6 0,i6 0,i6 0,i6 0]) W:=by
 kernel_rfl
theorem KP: (prog.info? 25).map (λi=>(i.zero,i.size,i.bytes))=some (some (.pointer none),1,8):=by kernel_rfl
def NJ (w:World) (dg vg:Nat) (e:Ending) (w':World):Prop:=∃m vb c gs,e=.returned (pt m 0)/\w.heap.size<=m/\gs.length=8/\ak w' m 129 (i6 20::i6 2::i6 1::i6 4::pt dg 0:: .slice (some ⟨vb,0,none⟩) 1 c::gs)/\w'.cell? (ae vb 0)=some (pt vg 0)/\w.heap.size<=vb/\Bw w w'
theorem vp {b c dg vg:Nat} (hc:1<=c) (hcm:c<=maxLen) (hb:w.cell? (ae b 0)=some (pt vg 0)):
 Calls prog 56 #[dP,pt dg 0,.slice (some ⟨b,0,none⟩) 1 c] w (NJ w dg vg):=by
 have HB:=ja hb;have HC:=jb hc hcm;have A2:=λA c W=>s_ dg A c W;unfold dP at A2|-;clear hb hc hcm;go_enter func56,ntmps56;go_upto_region 1 with fail
 obtain⟨k0,b0⟩:=box w;generalize w.alloc (.cells #[i6 20,i6 2,i6 1,i6 4] 60)=w0 at*;obtain⟨g,hg⟩:=ex w.heap.size;rw[hg]at k0|-;have A3:=World.block_lt_of_cell? _ _ HB.a;have A7:w0.drew.cell? (ae b 0)=some (pt vg 0):=(b0.cell (p:=ae b 0) A3).trans HB.a;have A8:bw w0.drew w0.drew.heap.size 1 (.slice (some ⟨b,0,none⟩) 1 c) 1 [pt vg 0]:=
  ⟨some ⟨b,0,none⟩,c,rfl,HC.a,HC.b,rfl,λ_=>⟨b,0,rfl,Nat.lt_of_lt_of_le A3 b0.size,λj u hu=>by
   cases j with
   |zero=>obtain rfl:_=u:=(by simpa using hu);exact A7
   |succ j=>simp at hu⟩⟩
 obtain⟨v6,R,A4,U,A1,Au⟩:=aE (P:=prog) (ty:=61) (base:=w0.heap.size) underlying61 KP rfl dc (World.ownsRow_nil w0.drew w0.heap.size 25 1) A8 (λu hu=>by rw[List.mem_singleton.1 hu];rfl) (by rw[aq];decide) dc lh;obtain⟨g6,c6,rfl⟩:∃g6 c6,v6=.slice (some ⟨g6,0,none⟩) 1 c6:=by
  rcases U.2 with⟨_,h0⟩|⟨g',cap,cur,e,_⟩
  ·exact absurd h0 dc
  ·exact⟨g',cap,e⟩
 have A0:Bw w0 R:=Below.grown ((Below.refl _ w0).drew) A1 lh (λ_ e=>by cases e);have A9:=U.lt g6 rfl;have x6:R.cell? (ae g6 0)=some (pt vg 0):=by have:=U.cells (g:=g6) rfl 0 _ rfl;simpa [Addr.add]using this
 obtain⟨z0,z1,z2,z3⟩:=four k0;have AI:w0.drew.cell? (ae g 0)=some (i6 20)/\w0.drew.cell? (ae g 1)=some (i6 2)/\w0.drew.cell? (ae g 2)=some (i6 1)/\w0.drew.cell? (ae g 3)=some (i6 4):=⟨z0,z1,z2,z3⟩;have AR:=four (k0.ext A0);have HW:=jb AI AR;have B0:=ja b0;have K0:=ja k0;have HG:=ja hg;have Ah:=ja A2;clear A2 b0 k0 z0 z1 z2 z3 AI AR hg A7;refine dF 7 [.agg #[i6 20,i6 2,i6 1,i6 4],pt dg 0,.slice (some ⟨b,0,none⟩) 1 c,.slice (some ⟨g6,0,none⟩) 1 c6,.agg #[i6 20,i6 2,i6 1,i6 4,pt dg 0,.slice (some ⟨g6,0,none⟩) 1 c6,i6 0,i6 0,i6 0,i6 0,i6 0,i6 0,i6 0,i6 0],pt R.heap.size 0,pt R.heap.size 0] (λf_ q_=>q_=cond (f_ 5) (R.alloc (.cells #[i6 20,i6 2,i6 1,i6 4,pt dg 0,.slice (some ⟨g6,0,none⟩) 1 c6,i6 0,i6 0,i6 0,i6 0,i6 0,i6 0,i6 0,i6 0] 129)) (cond (f_ 3) (R) (w0.drew))) kj rfl kj rfl ?_ ?_
 ·refine⟨?_,cz [] [1],cz [] [2],?_,?_,?_,cz [5,14] [],trivial⟩
  ·intro f a x o J I hG hd hs K hK;have n0:f 0=false:=o;have n4:f 4=false:=I.no 4 0 9 n0 kj;have n5:f 5=false:=I.no 5 4 13 n4 kj;have hx:=hG;rw[n5]at hx;simp only[cond_true,cond_false]at hx;have h3:_=_:=hs 3 kj;clear hd hs J I;have Aa:=ja hx;clear hx;have A':=ja hG;clear hG;refine pj ?_;have hz:x.cell? (ae g 0)=some (i6 20)/\x.cell? (ae g 1)=some (i6 2)/\x.cell? (ae g 2)=some (i6 1)/\x.cell? (ae g 3)=some (i6 4):=by
    rw[Aa.a];cases f 3
    ·exact HW.a
    ·exact HW.b
   obtain⟨q0,q1,q2,q3⟩:=hz;go_simp;exact hK _ _ rfl A'.a
  ·intro f a x o J I hG hd hs K hK;have n3:f 3=false:=o;have n4:f 4=false:=I.no 4 3 12 n3 kj;have n5:f 5=false:=I.no 5 4 13 n4 kj;have hx:=hG;rw[n5,n3]at hx;simp only[cond_true,cond_false]at hx;have Ao:_=_:=hd 2 11 kj;clear hd hs J I;have hN: (R)=cond (decide (5=3)||f 5) (R.alloc (.cells #[i6 20,i6 2,i6 1,i6 4,pt dg 0,.slice (some ⟨g6,0,none⟩) 1 c6,i6 0,i6 0,i6 0,i6 0,i6 0,i6 0,i6 0,i6 0] 129)) (cond (decide (3=3)||f 3) (R) (w0.drew)):=(by simp only[Nat.reduceEqDiff,decide_true,decide_false,Bool.false_or,Bool.true_or,n3,n5,cond_true,cond_false]);subst hx;have A':=ja hG;clear hG;have A5:=ja hN;clear hN;refine pj ?_;refine qA 11 61 rfl Ao A4 ?_;exact hK _ _ rfl A5.a
  ·intro f a x o J I hG hd hs K hK;have n4:f 4=false:=o;have n3:f 3=true:=J 3 12 kj;have n5:f 5=false:=I.no 5 4 13 n4 kj;have hx:=hG;rw[n5,n3]at hx;simp only[cond_true,cond_false]at hx;have h9:_=_:=hd 0 9 kj;have Aq:=aA h9;have Ar:_=_:=hd 1 10 kj;have Ab:=aA Ar;have As:_=_:=hd 3 12 kj;have Ad:=aA As;clear hd hs J I;have Aa:=ja hx;clear hx;have A':=ja hG;clear hG;refine pj ?_;refine Co.wp_build 129 #[(0,.tmp 9),(1,.tmp 10),(2,.tmp 12)] rfl (r:=_) ?_ (hK _ _ rfl A'.a);have e: (#[(0,Operand.tmp 9),(1,.tmp 10),(2,.tmp 12)].map λ(i,x)=>(i,a.eval x))=#[(0,.agg #[i6 20,i6 2,i6 1,i6 4]),(1,pt dg 0),(2,.slice (some ⟨g6,0,none⟩) 1 c6)]:=(by simp[Act.eval,Aq,Ab,Ad]);rw[e];exact Ah.a _ _ _
  ·intro f a x o J I hG hd hs K hK;have n5:f 5=false:=o;have n4:f 4=true:=J 4 13 kj;have n3:f 3=true:=I 4 3 12 kj n4;have hx:=hG;rw[n5,n3]at hx;simp only[cond_true,cond_false]at hx;have Av:_=_:=hd 4 13 kj;clear hd hs J I;have hN: (R.alloc (.cells #[i6 20,i6 2,i6 1,i6 4,pt dg 0,.slice (some ⟨g6,0,none⟩) 1 c6,i6 0,i6 0,i6 0,i6 0,i6 0,i6 0,i6 0,i6 0] 129))=cond (decide (5=5)||f 5) (R.alloc (.cells #[i6 20,i6 2,i6 1,i6 4,pt dg 0,.slice (some ⟨g6,0,none⟩) 1 c6,i6 0,i6 0,i6 0,i6 0,i6 0,i6 0,i6 0,i6 0] 129)) (cond (decide (3=5)||f 3) (R) (w0.drew)):=(by simp only[Nat.reduceEqDiff,decide_true,decide_false,Bool.false_or,Bool.true_or,n3,n5,cond_true,cond_false]);subst hx;have A':=ja hG;clear hG;have A5:=ja hN;clear hN;refine pj ?_;go_simp;exact hK _ _ rfl A5.a
 ·intro x hG;replace hG:x=R.alloc (.cells #[i6 20,i6 2,i6 1,i6 4,pt dg 0,.slice (some ⟨g6,0,none⟩) 1 c6,i6 0,i6 0,i6 0,i6 0,i6 0,i6 0,i6 0,i6 0] 129):=hG;subst hG;rintro _ rfl _ rfl _ rfl _ rfl _ rfl _ rfl _ rfl;simp only[Act.put,List.setIfInBounds_toArray,List.set_cons_zero,List.set_cons_succ,gC,List.getD_cons_zero,List.getD_cons_succ];(try simp only[Exit.then]);have k7:=ak.new R 129 #[i6 20,i6 2,i6 1,i6 4,pt dg 0,.slice (some ⟨g6,0,none⟩) 1 c6,i6 0,i6 0,i6 0,i6 0,i6 0,i6 0,i6 0,i6 0];have b7:=(Below.refl R.heap.size R).alloc lh (.cells #[i6 20,i6 2,i6 1,i6 4,pt dg 0,.slice (some ⟨g6,0,none⟩) 1 c6,i6 0,i6 0,i6 0,i6 0,i6 0,i6 0,i6 0,i6 0] 129);generalize R.alloc (.cells #[i6 20,i6 2,i6 1,i6 4,pt dg 0,.slice (some ⟨g6,0,none⟩) 1 c6,i6 0,i6 0,i6 0,i6 0,i6 0,i6 0,i6 0,i6 0] 129)=w7 at*;obtain⟨m,hm⟩:=ex R.heap.size;have s6:=A0.size;have s0:=B0.a.size;have x7:=(b7.cell (p:=ae g6 0) A9.2).trans x6;rw[hm]at k7|-;have K7:=ja k7;have B7:=ja ((B0.a.trans (A0.mono s0)).trans (b7.mono (Nat.le_trans s0 s6)));have HM:=ja (show w.heap.size<=m/\g6≠m/\w.heap.size<=g6 from⟨by omega,by omega,by omega⟩);have X7:=ja x7;clear hm k7 b7 x7 x6 A1 A0 A9 s6 s0 A3;go_wp2;(go_loopw [8,15] (λ_ u wr=>∃(j:Nat) (gs:List Value),j<=8/\u=i6 (j:Int)/\gs.length=8/\ak wr m 129 (i6 20::i6 2::i6 1::i6 4::pt dg 0:: .slice (some ⟨g6,0,none⟩) 1 c6::gs)/\wr.cell? (ae g6 0)=some (pt vg 0)/\Bw w wr) (λ_ u _=>8-(RowKit.intOf u).toNat));case atStart=>exact⟨0,_,by omega,rfl,rfl,K7.a,X7.a,B7.a⟩
  case round=>
   obtain⟨j,gs,hj,rfl,A6,hk,hx,hb⟩:=hrel;have HH:=jd A6 hk hx hb;by_cases Aw:j<8
   ·have hc:wr.cell? (ae m (6+j))=gs[j]? :=(by rw[hk.cell,show 6+j=j+6 by omega];rfl);obtain⟨gv,Ae⟩:∃gv,gs[j]? =some gv:=⟨_,List.getElem?_eq_getElem om⟩;rw[Ae]at hc;have hf:=hk.frozen (6+j);clear A6 hk hx hb Ae;go_wp2;go_roundw;case rel=>have h9:=HH.b.aC (6+j) (i6 (-1));rw[show 6+j=j+6 by omega]at h9|-;refine⟨j+1,gs.set j (i6 (-1)),by omega,by simp,by rw[List.length_set];exact HH.a,h9,?_,HH.d.setCell (p:=ae m (j+6)) HM.a.1 _⟩;rw[World.cell?_setCell_far _ _ _ _ (λe=>HM.a.2.1 e.symm)];exact HH.c
    case measure=>simp[RowKit.intOf];omega
   ·obtain rfl:j=8:=(by omega);clear A6 hk hx hb;go_wp2;go_ret;exact⟨m,g6,c6,gs,rfl,HM.a.1,HH.a,HH.b,HH.c,HM.a.2.2,HH.d⟩
end
end Dv
namespace Dv
open Go.RowKit
open Ad (dP box four)
attribute [local go_sem] Oper.semAt_some
section
variable {w w' w'':World} {X X' Y:Nat->Prop} {d d' v v':D}
def NG (w:World) (dg:Nat) (vb:Value) (e:Ending) (w':World):Prop:=∃p1 p2 p3,e=.returned (.func (.func 105) #[] #[pt p1 0,pt p2 0,pt p3 0])/\w'.cell? (ae p1 0)=some (pt dg 0)/\w'.cell? (ae p2 0)=some (i6 0)/\w'.cell? (ae p3 0)=some vb/\w.heap.size<=p1/\w.heap.size<=p2/\w.heap.size<=p3/\Bw w w'
theorem mV (w:World) (dg:Nat) (A:Option Addr) (n c:Nat):Calls prog 54 #[pt dg 0,i6 0,.slice A n c] w (NG w dg (.slice A n c)):=by
 have j:∀(fn:Fn) (first cap:Array Value) (w:World),(Instr.makeFunc fn first cap).run prog w=.ok (.func fn first cap) w:=λ_ _ _ _=>rfl;go_enter func54,ntmps54;go_wp2;have k1:=ak.new w 25 #[pt dg 0];have R:=(Below.refl w.heap.size w).alloc lh (.cells #[pt dg 0] 25);have s1: (w.alloc (.cells #[pt dg 0] 25)).heap.size=w.heap.size+1:=by simp
 generalize w.alloc (.cells #[pt dg 0] 25)=w1 at*;have k2:=ak.new w1 3 #[i6 0];have U:=(Below.refl w1.heap.size w1).alloc lh (.cells #[i6 0] 3);have s2: (w1.alloc (.cells #[i6 0] 3)).heap.size=w1.heap.size+1:=by simp
 generalize w1.alloc (.cells #[i6 0] 3)=w2 at*;have k3:=ak.new w2 23 #[.slice A n c];have J:=(Below.refl w2.heap.size w2).alloc lh (.cells #[.slice A n c] 23);generalize w2.alloc (.cells #[.slice A n c] 23)=w3 at*;go_ret;rw[s1]at k2;rw[s2,s1]at k3;have I:=R.trans (U.mono R.size);exact⟨_,_,_,rfl,((k1.ext U).ext J).cell 0,(k2.ext J).cell 0,k3.cell 0,Nat.le_refl _,by omega,by omega,I.trans (J.mono I.size)⟩
theorem JM {B p1 p2 p3:Nat} {vb:Value} {l:List UInt8} (hU:ju B w vb l) (hl:l.length=128) (c1:w.cell? (ae p1 0)=some (pt d.g 0)) (c2:w.cell? (ae p2 0)=some (i6 0)) (c3:w.cell? (ae p3 0)=some vb)
 (h1:B<=p1) (h2:B<=p2) (h3:B<=p3) (h4:B<=w.heap.size) (hX:∀b,X b->b<B):
 St (w.alloc (.cells #[.func (.func 53) #[pt d.g 0] #[],.func (.func 105) #[] #[pt p1 0,pt p2 0,pt p3 0],.func (.func 55) #[pt d.g 0] #[]] 82)) X d w.heap.size p1 p2 p3 vb l:=by
 have k:=ak.new w 82 #[.func (.func 53) #[pt d.g 0] #[],.func (.func 105) #[] #[pt p1 0,pt p2 0,pt p3 0],.func (.func 55) #[pt d.g 0] #[]];have I:=(Below.refl w.heap.size w).alloc lh (.cells #[.func (.func 53) #[pt d.g 0] #[],.func (.func 105) #[] #[pt p1 0,pt p2 0,pt p3 0],.func (.func 55) #[pt d.g 0] #[]] 82);exact{
  f0:=k.cell 0
  f1:=k.cell 1
  f2:=k.cell 2
  c1:=cl I (World.block_lt_of_cell? _ _ c1) c1
  c2:=cl I (World.block_lt_of_cell? _ _ c2) c2
  c3:=cl I (World.block_lt_of_cell? _ _ c3) c3
  bs:=(hU.ext I).1
  len:=hl
  nx:=λc J hx=>by
   have R:=hX c hx;rcases J with rfl|rfl|rfl|rfl|J
   ·omega
   ·omega
   ·omega
   ·omega
   ·have:=hU.2 c J;omega}
def NW (w:World) (X Y:Nat->Prop) (e:Ending) (w':World):Prop:=∃m d' X',e=.returned (.tuple #[pt m 0,i6 0])/\Md w' X' m d'/\d'.qs=[]/\(∀b,X' b->X b\/w.heap.size<=b)/\w.heap.size<=m/\af (λb=>X b\/Y b) w w'
theorem yz (h:At w X d) (hv:At w Y v) (hd:d.n=336) (hvn:v.n=65) (hXY:∀b,X b->b<w.heap.size/\¬Y b) (hYl:∀b,Y b->b<w.heap.size) {b c:Nat} (hc1:1<=c) (hcm:c<=maxLen) (hb:w.cell? (ae b 0)=some (pt v.g 0)) (hbX:¬X b/\¬Y b)
 (hH:a7 w) (hg:∀b,b<=1->¬X b/\¬Y b):Calls prog 18 #[dP,pt d.g 0,.slice (some ⟨b,0,none⟩) 1 c] w (NW w X Y):=by
 have H:=jd h hv hd hvn;have U:=jd hXY hYl hbX hg;have HB:=jc hb hc1 hcm;have HH:=ja hH;have Ar:∀(fn:Fn) (first cap:Array Value) (w:World),(Instr.makeFunc fn first cap).run prog w=.ok (.func fn first cap) w:=λ_ _ _ _=>rfl;unfold dP;clear h hv hd hvn hXY hYl hbX hg hb hc1 hcm hH;go_enter func18,ntmps18;go_upto_region 1 with fail
 obtain⟨k0,b0⟩:=box w;generalize w.alloc (.cells #[i6 20,i6 2,i6 1,i6 4] 60)=w0 at*;obtain⟨g,hg⟩:=ex w.heap.size;rw[hg]at k0|-;have Ab:=ja hg;have K0:=ja k0;have B0:=ja b0;obtain⟨z0,z1,z2,z3⟩:=four k0;clear k0 b0 hg;go_wp2_with fail
 refine(Ad.cP w0).mono ?_;rintro e w1 ⟨rfl,b1⟩;have B1:=ja (B0.a.trans (b1.mono B0.a.size));have K1:=ja (K0.a.ext b1);clear z0 z1 z2 z3 b1;obtain⟨z0,z1,z2,z3⟩:=four K1.a;go_wp2_with fail
 refine(gm (H.a.below B1.a) (H.b.below B1.a) H.c H.d (cl B1.a (World.block_lt_of_cell? _ _ HB.a) HB.a)).mono ?_;rintro e w2 ⟨rfl,b2⟩;have B2:=ja (B1.a.trans (b2.mono B1.a.size));have K2:=ja (K1.a.ext b2);clear z0 z1 z2 z3 b2;obtain⟨z0,z1,z2,z3⟩:=four K2.a;go_wp2_with fail
 refine(LabW.BE 20 2 1 4 w2 (HH.a.ext B2.a) dc).mono ?_;rintro e w3 ⟨u,rfl,hu,b3⟩;have HU:=ja hu;obtain⟨UA,uc,rfl,_⟩:=hu.1.open_;have J: (Lb.za 20 2 1 4).length=128:=Crc.bH _ (by rw[show Lb.qz.zip (Lb.qn 20 2 1 4)=Lb.qz.zip (Lb.qn 20 2 1 4)from rfl,Lb.uI];decide);have Ae:=ja J;rw[J]at HU|-;have B3:=ja (B2.a.trans (b3.mono B2.a.size));have K3:=ja (K2.a.ext b3);have N3:=ja b3.size;clear z0 z1 z2 z3 b3 hu J;go_wp2_with fail
 refine(mV w3 d.g UA 128 uc).mono ?_;rintro e w4 ⟨p1,p2,p3,rfl,c1,c2,c3,l1,l2,l3,b4⟩;have B4:=ja (B3.a.trans (b4.mono B3.a.size));have K4:=ja (K3.a.ext b4);have U4:=ja (HU.a.ext b4);have C4:=jf c1 c2 c3 l1 l2 l3;clear c1 c2 c3 l1 l2 l3 b4;go_wp2_with fail
 have hS:=JM (d:=d) (B:=w.heap.size) (X:=X) (U4.a.le B2.a.size) Ae.a C4.a C4.b C4.c (Nat.le_trans B3.a.size C4.d) (Nat.le_trans B3.a.size C4.e) (Nat.le_trans B3.a.size C4.f) B4.a.size (λb hb=>(U.a b hb).1);have b5:=(Below.refl w4.heap.size w4).alloc lh (.cells #[.func (.func 53) #[pt d.g 0] #[],.func (.func 105) #[] #[pt p1 0,pt p2 0,pt p3 0],.func (.func 55) #[pt d.g 0] #[]] 82);generalize w4.alloc (.cells #[.func (.func 53) #[pt d.g 0] #[],.func (.func 105) #[] #[pt p1 0,pt p2 0,pt p3 0],.func (.func 55) #[pt d.g 0] #[]] 82)=w5 at*;have B5:=ja (B4.a.trans (b5.mono B4.a.size));have K5:=ja (K4.a.ext b5);refine(ri (H.a.below B5.a) hS (by rw[H.c];decide)).mono ?_;rintro e w6 ⟨rfl,d1,hM,hq⟩;have HM:=ja (cO.behind B5.a hM);have HQ:=ja hq;have j:=ja HM.a.2.2.2;have Ah:=ja (H.b.bU j.a λb hb _ hx=>(U.a b hx).2 hb);have K6:=ja (hM.2.2.2.blk K5.a (λhx=>by have:=(U.a g hx).1;have:=Ab.a;omega));have A4:=World.block_lt_of_cell? _ _ HB.a;have Ao:=ja ((j.a.cell (p:=ae b 0) A4 U.c.1).trans HB.a);have H6:=ja (show a7 w6 fromλk hk=>(j.a.cell (p:=ae 1 k) (World.block_lt_of_cell? _ _ (HH.a k hk)) (U.d 1 dc).1).trans (HH.a k hk));clear hS b5 hM hq A4;obtain⟨z0,z1,z2,z3⟩:=four K6.a;go_wp2_with fail
 refine(vp HB.b HB.c Ao.a (dg:=d.g)).mono ?_;rintro e w7 ⟨m,vb,c9,gs,rfl,A0,A5,hk,A6,o,b7⟩;have I:=Lib.hid (⟨A0,A5,hk,A6,o,b7⟩:_/\_/\_/\_/\_/\_);have c5:=hk.cell 5;clear z0 z1 z2 z3 A0 A5 hk A6 o b7;go_wp2;clear c5;go_loopw [12,13,14,15,16,56] (λ_ _ _ _ _ u wr=>(u=i6 0/\wr=w7)\/(u=i6 1/\∃d' X',Md wr X' m d'/\d'.qs=[]/\(∀b,X' b->X b\/w.heap.size<=b)/\af (λb=>X b\/Y b) w wr)) (λ_ _ _ _ _ u _=>1-(RowKit.intOf u).toNat)
 case atStart=>exact .inl ⟨rfl,rfl⟩
 case round=>
  rcases hrel with⟨rfl,rfl⟩|⟨rfl,hrel⟩
  ·have I:=Lib.hid I.out;have cv:=I.out.2.2.2.1;have c0:=I.out.2.2.1.cell 6;(go_wp2_with fail);refine(LabW.BP 0 0 wr (H6.a.ext I.out.2.2.2.2.2) dc).mono ?_;rintro e w8 ⟨u,rfl,hu,b8⟩;have A7:=ja hu;obtain⟨VA,vc,rfl,_⟩:=hu.1.open_;have J: (Lb.xZ 0 0).length=128:=Crc.bH _ (by rw[Lb.wI];decide);have A8:=ja J;rw[J]at A7|-;have B8:=ja b8;clear hu b8 J;(go_wp2_with fail);refine(mV w8 v.g VA 128 vc).mono ?_;rintro e w9 ⟨q1,q2,q3,rfl,e1,e2,e3,l1,l2,l3,b9⟩;have U9:=ja (A7.a.ext b9);have B9:=ja (B8.a.trans (b9.mono B8.a.size));have R:=I.out.2.2.2.2.2.size;have s6:=j.a.size;have hS:=JM (d:=v) (B:=w6.heap.size) (X:=Y) (U9.a.le R) A8.a e1 e2 e3 (Nat.le_trans (Nat.le_trans R B8.a.size) l1) (Nat.le_trans (Nat.le_trans R B8.a.size) l2) (Nat.le_trans (Nat.le_trans R B8.a.size) l3) (Nat.le_trans R B9.a.size) (λb hb=>Nat.lt_of_lt_of_le (U.b b hb) s6);have A9:=(Below.refl w9.heap.size w9).alloc lh (.cells #[.func (.func 53) #[pt v.g 0] #[],.func (.func 105) #[] #[pt q1 0,pt q2 0,pt q3 0],.func (.func 55) #[pt v.g 0] #[]] 82);have HS:=ja hS;have A1:=ja (B9.a.trans (A9.mono B9.a.size));clear hS A9 e1 e2 e3 l1 l2 l3 b9 R s6;(go_wp2_with fail);generalize w9.alloc (.cells #[.func (.func 53) #[pt v.g 0] #[],.func (.func 105) #[] #[pt q1 0,pt q2 0,pt q3 0],.func (.func 55) #[pt v.g 0] #[]] 82)=w10 at*;have A':=Ah.a.below (I.out.2.2.2.2.2.trans (A1.a.mono I.out.2.2.2.2.2.size));refine(ri A' HS.a (by rw[H.d];decide)).mono ?_;rintro e A2 ⟨rfl,v1,AI,Aq⟩;have AR:=ja AI.2.2.2;clear AI Aq A' cv c0;have A3:¬Y m:=λhy=>(by have:=U.b m hy;have:=j.a.size;have:=I.out.1;omega);have KM:=ja (AR.a.blk (I.out.2.2.1.ext A1.a) A3);obtain⟨gv,Aa,rfl⟩:∃gv Aa,gs=gv::Aa:=by
    cases gs with
    |nil=>exact absurd I.out.2.1 dc
    |cons a b=>exact⟨a,b,rfl⟩
   have cm:=KM.a.cell 6;have fm:=KM.a.frozen 6;have As:=ja A3;clear A3;go_wp2;go_roundw;case rel=>
    have A0:=I.out.1;have s6:=j.a.size;have TT:af (λb=>Y b\/b=m) w6 (A2.setCell (ae m 6) (i6 0)):=(((af.aj I.out.2.2.2.2.2).trans (af.aj (X:=λb=>Y b\/b=m) A1.a) λ_ e=>.inl e).trans AR.a λ_ e=>.inl (.inl e)).trans (Co.af.setCell A2 m 6 (i6 0)) λ_ e=>.inl (.inr e);have hD:At (A2.setCell (ae m 6) (i6 0)) (λb=>X b\/(w.heap.size<=b/\b<w6.heap.size)) d1:=HM.a.1.bU TT λb hb hl hx=>by
     rcases hx with hx|rfl
     ·rcases hb with hb|hb
      ·exact(U.a b hb).2 hx
      ·have:=U.b b hx;omega
     ·omega
    refine .inr ⟨rfl,d1,_,⟨⟨_,by rw[HM.a.2.1];exact KM.a.aC 6 (i6 0),?_⟩,hD,HM.a.2.2.1.1.trans H.c,?_⟩,HQ.a,?_,?_⟩
    ·have:=I.out.2.1;simpa using this
    ·rintro(hx|hx)
     ·have:=(U.a m hx).1;omega
     ·omega
    ·rintro b (hb|hb)
     ·exact .inl hb
     ·exact .inr hb.1
    ·refine(j.a.mono (Y:=λb=>X b\/Y b) λ_ e=>.inl e).trans TT λb hb=>?_;rcases hb with hb|rfl
     ·exact .inl (.inr hb)
     ·exact .inr om
   case measure=>simp[RowKit.intOf]
  ·have HR:=ja hrel;clear hrel;go_wp2;go_ret2;obtain⟨d',X',h1,h2,h3,h4⟩:=HR.a;exact⟨m,d',X',rfl,h1,h2,h3,Nat.le_trans (j.a.size) I.out.1,h4⟩
end
end Dv
end Go.Proofs.YtdhgejiacehpbaaGreatDoor
