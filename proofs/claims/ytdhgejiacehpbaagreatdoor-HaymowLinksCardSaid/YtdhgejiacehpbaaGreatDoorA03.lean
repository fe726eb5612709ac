import Derived.Test.YtdhgejiacehpbaaGreatDoorA02
import Derived.Maps.OwnSet
import Derived.Maps.RangeWalk
import Derived.Maps.Ext
set_option maxRecDepth 100000
set_option maxHeartbeats 16000000
set_option linter.all false
namespace Go.Proofs.YtdhgejiacehpbaaGreatDoor
open Go.Proofs.Tryz
section
open Go.RowKit
def a7 (w:World):Prop:=∀k,k<16->w.cell? (ae 1 k)=some (.int .u32 (Crc.half k:Nat))
theorem a7.ext {w w':World} (h:a7 w) (hb:Bw w w'):a7 w':=λk I=>(hb.cell (World.block_lt_of_cell? w _ (h k I))).trans (h k I)
theorem a7.alloc {w:World} (h:a7 w) (o:Obj):a7 (w.alloc o):=h.ext (bh.alloc lh o)
theorem wO (w:World) (hG:a7 w) (X:Nat) (hX:X<4294967296):
 ∃I:Nat,I<16/\bits .and .u32 (X:Int) 15=(I:Int)/\w.cell? (ae 1 I)=some (.int .u32 (Crc.half I:Nat))/\bits .xor .u32 ((X:Int)/16) (Crc.half I:Nat)=(Crc.K' X:Nat):=by
 refine⟨X&&&15,?_,?_,?_,?_⟩
 ·have:X&&&15<=15:=Nat.and_le_right;omega
 ·exact u32_and_nat X 15 hX om
 ·exact hG _ (by have:X&&&15<=15:=Nat.and_le_right;omega)
 ·have:=u32_xor_nat (X/16) (Crc.half (X&&&15)) om (Crc.AZ _);simpa [Crc.K']using this
theorem nT (w:World) (v:Value) (B:Nat) (ls:List (List UInt8)) (hG:a7 w) (h:oL w B v ls):
 Calls prog 96 #[v] w λe w'=>e=.returned (.int .u32 (Crc.sum ls.flatten:Nat))/\w=w':=by
 obtain⟨A,c,rfl,hc,hm,o⟩:=h.open_;clear h;go_enter func96,ntmps96;go_wp2;go_loop [3,10] (λx i=>∃k:Nat,k<=ls.length/\i=i6 k/\x=.int .u32 (Crc.run 4294967295 (ls.take k).flatten:Nat)) (λ_ i=>ls.length-(intOf i).toNat)
 case atStart=>exact⟨0,Nat.zero_le _,rfl,rfl⟩
 case round=>
  obtain⟨k,hk,rfl,rfl⟩:=hrel;have A2:=Crc.yb (ls.take k).flatten 4294967295 om;generalize A3:Crc.run 4294967295 (ls.take k).flatten=R0 at*;have A1:=ja A3;clear A3;by_cases A4:k<ls.length
  ·obtain⟨b,off,u,rfl,hb,hu,hB⟩:=o k A4;obtain⟨A',c',rfl,A6,A7,U⟩:=hB.open_;generalize hl:ls[k]=l at*;have HL:=ja hl;clear hl hB o;go_wp2;(go_loop [3,16] (λx i=>∃j:Nat,j<=l.length/\i=i6 j/\x=.int .u32 (Crc.run R0 (l.take j):Nat)) (λ_ i=>l.length-(intOf i).toNat));case atStart=>exact⟨0,Nat.zero_le _,rfl,rfl⟩
   case round=>
    obtain⟨j,hj,rfl,rfl⟩:=hrel;by_cases A0:j<l.length
    ·obtain⟨b',A5,rfl,A8,hx⟩:=U j A0;have HS:=ja (Crc.D' R0 l j A0);have hR:=Crc.yb (l.take j) R0 A2;generalize hl:l[j]=ch at*;generalize hr:Crc.run R0 (l.take j)=R at*;clear hl hr U hu;have A9:ch.toNat<256:=ch.toNat_lt;have e1:=u32_xor_nat R ch.toNat hR om;have hX:=Nat.xor_lt_two_pow (n:=32) hR (show ch.toNat<2^32 by omega);unfold Crc.Nz at HS;generalize R^^^ch.toNat=X at*;obtain⟨I,hI,e2,AI,e3⟩:=wO w hG X hX;have hY:=Crc.yY X hX;generalize Crc.K' X=Y at*;obtain⟨J,hJ,e4,AR,e5⟩:=wO w hG Y hY;generalize Crc.K' Y=Z at*;clear hG;go_wp2;go_round;case rel=>exact⟨j+1,by omega,by go_num,by rw[HS.a]⟩
     case measure=>exact ms
    ·clear hG;go_wp2;go_round;case rel=>exact⟨k+1,by omega,by go_num,by rw[Crc.Cr ls k A4,Crc.IH,A1.a,HL.a,List.take_of_length_le om]⟩
     case measure=>exact ms
  ·clear hG;have e:=u32_xor_nat 4294967295 R0 om A2;have E:=ja e;clear e;go_wp2;go_ret;refine⟨?_,rfl⟩;rw[List.take_of_length_le om]at A1;unfold Crc.sum;rw[A1.a,<-E.a];rfl
theorem Fv (w:World) (v:Value) (B:Nat) (l:List UInt8) (hG:a7 w) (h:Bs w B v l) (hB:B<=w.heap.size):
 Calls prog 48 #[v] w λe w'=>e=.returned (.bool (Crc.held l))/\Bw w w':=by
 obtain⟨A,c,rfl,hc,hm,I⟩:=h.rP;by_cases hl:l.length=128
 ·have R:=(h.head (k:=124) om).more hB;have hS:=ja (λt=>nT (w.alloc (.cells #[.slice A 124 c] t)) _ _ [l.take 124] (hG.alloc _) (oL.LD t R));have HL:=ja hl;rw[hl]at hc I|-;clear h R hG hl;go_enter func48,ntmps48;(go_wp2_with fail);refine(hS.a _).mono ?_;rintro e w' ⟨rfl,rfl⟩;have hs:=Crc.lD (l.take 124);simp only[List.flatten_cons,List.flatten_nil,List.append_nil];generalize A0:Crc.sum (l.take 124)=S at*;have A1:=ja A0;clear A0 hS;obtain⟨b,off,rfl,hb,_⟩:=I 0 om;have J:∀j,j<128->w.cell? (ae b (off+j))=some (.int .u8 ((l.getD j 0).toNat:Int)):=(by intro j hj;obtain⟨b',A8,e,_,hx⟩:=I j hj;injection e with e;injection e with e1 e2;subst e1 e2;exact hx);clear I;go_wp2;have U:Bw w (w.alloc (.cells #[.slice (some ⟨b,off,none⟩) 124 c] 23)):=bh.alloc lh _;have o:∀j,j<128->(w.alloc (.cells #[.slice (some ⟨b,off,none⟩) 124 c] 23)).cell? (ae b (off+j))=some (.int .u8 ((l.getD j 0).toNat:Int)):=λj hj=>(World.cell?_alloc_lt _ _ _ (by show b<_;omega)).trans (J j hj);generalize w.alloc (.cells #[.slice (some ⟨b,off,none⟩) 124 c] 23)=W1 at*;clear J;(go_loopw [12] (λi wr=>∃k n:Nat,k<=4/\i=i6 k/\wr=W1.drewN n/\Crc.Iz l S k) (λi _=>4-(intOf i).toNat));case atStart=>exact⟨0,0,by omega,rfl,rfl,λj hj=>absurd hj om⟩
  case round=>
   obtain⟨k,n,hk,rfl,rfl,A'⟩:=hrel;by_cases A6:k<4
   ·have hx:=o (124+k) om;have A2:∀e,(l.getD (124+k) 0).toNat≠S/256^k%256->Crc.held l=e->e=false:=λe h1 h2=>(by rw[<-h2,Bool.eq_false_iff,ne_eq,Crc.tU l HL.a,A1.a];exact Crc.Iz.no A6 h1);have A3:=ja A2;have A4:=ja (λe=>Crc.Iz.succ (l:=l) (S:=S) (k:=k) A' e);clear A2 o;obtain rfl|rfl|rfl|rfl:k=0\/k=1\/k=2\/k=3:=(by omega);all_goals
     generalize A7:l.getD _ 0=ch at hx A3 A4;clear A7;go_wp2;go_quiet (fail);go_wp2
     ·go_ret;rename_i hne;refine⟨?_,below_drewN (below_drewN U _) _⟩;have h2:=A3.a _ (by simp at hne;simp;omega) rfl;rw[h2];rfl
     ·rename_i hne;have A5:=A4.a (by simp at hne;simp;omega);refine⟨⟨_,n+nq,?_,?_,rfl,A5⟩,?_⟩
      ·omega
      ·rfl
      ·simp[intOf]
   ·obtain rfl:k=4:=(by omega);have H:=ja ((Crc.tU l HL.a).2 (by rw[A1.a];exact A'));clear A' o;go_wp2;go_ret;exact⟨by rw[H.a];rfl,below_drewN U _⟩
 ·have hne: ((l.length:Int) != 128)=true:=(by rw[bne_iff_ne];omega);have H:=ja (show Crc.held l=false by unfold Crc.held;simp[hl]);clear hl h I hG;go_enter func48,ntmps48;go_wp2;go_ret;exact⟨by rw[H.a];rfl,Below.refl _ _⟩
def l6:Array Value:=madeCells #[.int .u8 0] 128
theorem jY:l6.toList=(Crc.pad 128 []).map λc=>Value.int .u8 (c.toNat:Int):=by unfold l6 Crc.pad;rw[toList_madeCells_one,List.nil_append,List.map_replicate];rfl
theorem JL (W:World): (Instr.makeSlice 23 (i6 128) (i6 128)).run prog W=.ok (.slice (some ⟨W.heap.size,0,none⟩) 128 128) (W.alloc (.cells l6 5)):=by kernel_rfl
theorem gj (l:List UInt8):∀u∈l.map (λc=>Value.int .u8 (c.toNat:Int)),u.oneCell'=true:=by intro u hu;obtain⟨c,_,rfl⟩:=List.mem_map.1 hu;rfl
theorem IU {w:World} {g:Nat} {t:TypeId} {l:List UInt8} {S k i:Nat} (h:ak w g t ((Crc.arr l S k).map λc=>.int .u8 (c.toNat:Int))) (hl:l.length<=124) (hk:k<4) (hi:i=124+k) {z:Int} (hz:z=((S/256^k%256:Nat):Int)):
 ak (w.setCell (ae g i) (.int .u8 z)) g t ((Crc.arr l S (k+1)).map λc=>.int .u8 (c.toNat:Int)):=by
 subst hi;have hx: (UInt8.ofNat (S/256^k%256)).toNat=S/256^k%256:=by rw[UInt8.toNat_ofNat'];omega
 have e:=h.aC (124+k) (.int .u8 z);rw[<-Crc.Fa l S k hl hk _ hx,List.map_set,hx,<-hz];exact e
theorem EO (w:World) (v:Value) (B:Nat) (l:List UInt8) (hG:a7 w) (h:Bs w B v l) (hB:B<=w.heap.size) (hl:l.length<=124):
 Calls prog 150 #[v] w λe w'=>e=.returned (.tuple #[.slice (some ⟨w.heap.size,0,none⟩) 128 128,i6 0])/\ak w' w.heap.size 5 ((Crc.bR l).map λc=>.int .u8 (c.toNat:Int))/\Bw w w':=by
 obtain⟨A,c,rfl,hc,hm,j⟩:=h.rP;clear j;have AI:¬(124:Int)<(l.length:Int):=by omega
 have A7:=JL;go_enter func150,ntmps150;go_wp2;clear A7;have o:Bw w (w.alloc (.cells l6 5)):=bh.alloc lh _;have A0:=ak.new w 5 l6;have A1:Bs (w.alloc (.cells l6 5)) B (.slice A l.length c) l:=h.ext hB o;generalize w.alloc (.cells l6 5)=W1 at*;obtain⟨W2,A2,A3,U⟩:=iC (P:=prog) A0 (c':=128) (n:=128) 23 3 5 underlying23 kj A1 (gj l) om (by rw[jY];rfl);rw[A2];clear A2;go_wp2_with fail
 have R:=U _ _ lh o;have I:ak W2 w.heap.size 5 ((Crc.pad 128 l).map λc=>.int .u8 (c.toNat:Int)):=by have e: (l.map λc=>Value.int .u8 (c.toNat:Int))++l6.toList.drop l.length=(Crc.pad 128 l).map λc=>.int .u8 (c.toNat:Int):=(by rw[jY,<-List.map_drop,<-List.map_append];unfold Crc.pad;rw[List.nil_append,List.drop_replicate];rfl);rw[<-e];exact A3
 clear A3 U A0 A1 o;have A4:Bs W2 W2.heap.size (.slice (some ⟨w.heap.size,0,none⟩) 124 128) (Crc.pad 124 l):=by have:=(I.fe 0 124 128 1 (by simp[Crc.dA 128 l om]) om (by simp[maxLen])).more (Nat.succ_le_of_lt I.lt);unfold Bs;rw[Crc.dA 124 l hl,<-Crc.DE l hl];simpa [List.map_take]using this
 refine(nT _ _ _ [Crc.pad 124 l] ((hG.ext R).alloc _) (oL.LD _ A4)).mono ?_;rintro e w' ⟨rfl,rfl⟩;simp only[List.flatten_cons,List.flatten_nil,List.append_nil];have A':=I.alloc (.cells #[.slice (some ⟨w.heap.size,0,none⟩) 124 128] 23);have A5:=R.alloc R.size (.cells #[.slice (some ⟨w.heap.size,0,none⟩) 124 128] 23);generalize W2.alloc (.cells #[.slice (some ⟨w.heap.size,0,none⟩) 124 128] 23)=W3 at*;clear I A4 hG h R;have hS:=Crc.lD (Crc.pad 124 l);have HF:=ja (Crc.Fc l);rw[<-Crc.EH l (Crc.sum (Crc.pad 124 l)) hl]at A';generalize Crc.sum (Crc.pad 124 l)=S at*;go_wp2;go_loopw [18] (λi wr=>∃k:Nat,k<=4/\i=i6 k/\Bw w wr/\ak wr w.heap.size 5 ((Crc.arr l S k).map λc=>.int .u8 (c.toNat:Int))) (λi _=>4-(intOf i).toNat)
 case atStart=>exact⟨0,by omega,rfl,A5,A'⟩
 case round=>
  obtain⟨k,hk,rfl,A6,J⟩:=hrel;clear A5 A';by_cases A8:k<4
  ·have AR:=J.frozen (124+k);have A9:wr.cell? (ae w.heap.size (124+k))=some (.int .u8 (((Crc.arr l S k).getD (124+k) 0).toNat:Int)):=(by rw[J.cell,List.getElem?_map,List.getD_eq_getElem?_getD,List.getElem?_eq_getElem (by rw[Crc.zg l S k hl hk];omega)];rfl);obtain rfl|rfl|rfl|rfl:k=0\/k=1\/k=2\/k=3:=(by omega);all_goals
    generalize List.getD _ _ 0=ch at A9;go_wp2;exact⟨⟨_,by omega,by rfl,A6.setCell lh _,IU J hl A8 rfl (by simp;try omega)⟩,by simp[intOf]⟩
  ·obtain rfl:k=4:=(by omega);rw[HF.a]at J;go_wp2;go_ret2;exact⟨rfl,J,A6⟩
theorem lJ (w:World) (v:Value) (B:Nat) (l:List UInt8) (hG:a7 w) (h:Bs w B v l) (hB:B<=w.heap.size) (hl:l.length<=124):
 Calls prog 150 #[v] w λe w'=>∃u,e=.returned (.tuple #[u,i6 0])/\w'.ownsRow w.heap.size 5 1 u 128 ((Crc.bR l).map λc=>.int .u8 (c.toNat:Int))/\Bw w w':=by
 refine(EO w v B l hG h hB hl).mono ?_;rintro e w' ⟨rfl,I,J⟩;refine⟨_,rfl,?_,J⟩;have:=I.own lh 128 128 1 (by simp[Crc.bH l hl]) lh (by simp[maxLen]);rw[List.take_of_length_le (by simp[Crc.bH l hl])]at this;exact this
def ju (B:Nat) (w:World) (u:Value) (l:List UInt8):Prop:=Bs w w.heap.size u l/\∀b,u.ownBlock=some b->B<=b
theorem ju.ext {B:Nat} {w w':World} {u:Value} {l:List UInt8} (h:ju B w u l) (hb:Bw w w'):ju B w' u l:=⟨(h.1.ext lh hb).more hb.size,h.2⟩
theorem ju.le {B B':Nat} {w:World} {u:Value} {l:List UInt8} (h:ju B w u l) (hB:B'<=B):ju B' w u l:=⟨h.1,λb I=>Nat.le_trans hB (h.2 b I)⟩
theorem ju.aG {B B':Nat} {w:World} {u:Value} {l:List UInt8} {e:TypeId} (h:w.ownsRow B' e 1 u l.length (l.map λc=>.int .u8 (c.toNat:Int))) (hB:B<=B'):ju B w u l:=⟨Bs.aG h,λb I=>Nat.le_trans hB (h.lt b I).1⟩
end
namespace Sq
open Go.RowKit
theorem gG (l:List UInt8): (dU l).length=l.length:=List.length_map _
section
variable {w:World}
theorem Bs.whole {g:Nat} {l:List UInt8} (h:ak w g 5 (dU l)) (hl:l.length<=1000000):Bs w w.heap.size (.slice (some ⟨g,0,none⟩) l.length l.length) l:=by
 have:=h.fe 0 l.length l.length 1 (by rw[gG];omega) lh (by simp[maxLen];omega);have e: ((dU l).drop 0).take (l.length*1)=dU l:=by rw[List.drop_zero,Nat.mul_one,<-gG l,List.take_length]
 rw[e]at this;exact this.more (Nat.succ_le_of_lt h.lt)
theorem qG (v:Value) (n:Nat) (l:List UInt8) (w:World) (h:Bs w w.heap.size v l) (hl:l.length<=128):
 Calls prog 129 #[.agg #[i6 (n:Int),v]] w λe w'=>∃g,e=.returned (.agg #[i6 (n:Int),.slice (some ⟨g,0,none⟩) 128 128])/\ak w' g 5 (dU (Pk.pad 128 l))/\w.heap.size<=g/\Below w.heap.size w w':=by
 obtain⟨A,c,rfl,hc,hm,R⟩:=h.rP;clear R;have A5:=JL;have H:=ja h;clear h;go_enter func129,ntmps129;go_wp2;obtain⟨g,j⟩:=ex w.heap.size;have b1:Below g w (((w.alloc (.cells #[i6 (n:Int),.slice A l.length c] 225)).alloc (.cells #[i6 0,.slice none 0 0] 225)).alloc (.cells l6 5)):=by rw[<-j];exact((bh.alloc lh _).alloc sj _).alloc (by simp;omega) _
 have k0:=((ak.new w 225 #[i6 (n:Int),.slice A l.length c]).alloc (.cells #[i6 0,.slice none 0 0] 225)).alloc (.cells l6 5);have k1:=(ak.new (w.alloc (.cells #[i6 (n:Int),.slice A l.length c] 225)) 225 #[i6 0,.slice none 0 0]).alloc (.cells l6 5);have k2:=ak.new ((w.alloc (.cells #[i6 (n:Int),.slice A l.length c] 225)).alloc (.cells #[i6 0,.slice none 0 0] 225)) 5 l6;simp only[World.size_alloc]at k0 k1 k2;rw[j]at k0 k1 k2|-;have HB:=H.a.ext lh (j▸b1);rw[j]at HB;have HG:=ja j;generalize((w.alloc (.cells #[i6 (n:Int),.slice A l.length c] 225)).alloc (.cells #[i6 0,.slice none 0 0] 225)).alloc (.cells l6 5)=W1 at*;clear j;obtain⟨W2,o,U,I⟩:=iC (P:=prog) k2 (c':=128) (n:=128) 23 3 5 underlying23 kj HB (gj l) om (by rw[jY];rfl);rw[o];clear o;have b2:=I (g+1+1) W1 lh bh;have A':=k0.below b2 om;have J:=k1.below b2 om;have c0:W2.cell? (ae g 0)=some (i6 (n:Int)):=A'.cell 0;have c1:W2.cell? (ae (g+1) 0)=some (i6 0):=J.cell 0;have c2:W2.cell? (ae (g+1) 1)=some (.slice none 0 0):=J.cell 1;have f1:=J.frozen;have A0:=I g w om b1;have e: (l.map λc=>Value.int .u8 (c.toNat:Int))++l6.toList.drop l.length=dU (Pk.pad 128 l):=by rw[jY,<-List.map_drop,<-List.map_append];unfold dU Pk.pad Crc.pad;rw[List.nil_append,List.drop_replicate];rfl
 rw[e]at U;have A1:=ja U;have A2:=ja J;have A3:=ja A0;clear U I A0 b2 A' J b1 k0 k1 k2 HB e;go_wp2;have z1:=(A2.a.aC 0 (i6 (n:Int))).aC 1 (.slice (some ⟨g+1+1,0,none⟩) 128 128);refine bodyPost_ret (v:=.agg #[i6 (n:Int),.slice (some ⟨g+1+1,0,none⟩) 128 128]) (cZ [i6 (n:Int),.slice (some ⟨g+1+1,0,none⟩) 128 128] _ results129 rfl z1.range underlying225 rfl kj) rfl ?_;have A4:=HG.a;refine⟨g+1+1,rfl,(A1.a.cf (p:=ae (g+1) 0) (by show g+1+1≠g+1;omega) _).cf (p:=ae (g+1) 1) (by show g+1+1≠g+1;omega) _,by omega,?_⟩;rw[A4];exact(A3.a.setCell (p:=ae (g+1) 0) (by show g<=g+1;omega) _).setCell (p:=ae (g+1) 1) (by show g<=g+1;omega) _
def nl (p:Pc):Nat×List UInt8:=(p.n,p.l)
def Own (B:Nat) (w:World) (qs:List Pc):Prop:=∀q∈qs,∃g,q.v=.slice (some ⟨g,0,none⟩) 128 128/\ak w g 5 (dU q.l)/\B<=g/\q.l.length=128
theorem Own.ext {B:Nat} {w w':World} {qs:List Pc} (h:Own B w qs) (hb:Bw w w'):Own B w' qs:=λq I=>by obtain⟨g,J,R,U,j⟩:=h q I;exact⟨g,J,R.ext hb,U,j⟩
theorem Own.grown {B:Nat} {w w':World} {qs:List Pc} {base n sz:Nat} {v:Value} {xs:List Value} (h:Own B w qs) (ho:w.ownsRow base 225 sz v n xs) (hg:w.grownBy w' v.ownBlock):Own B w' qs:=λq J=>by obtain⟨g,R,I,U,j⟩:=h q J;exact⟨g,R,I.grown hg (aW ho I dc),U,j⟩
theorem Own.JF {B:Nat} {w:World} {qs:List Pc} {v:Value} (h:Own B w qs) (ho:w.ownsRow B 225 2 v qs.length (aZ qs)):fj w w.heap.size v qs:=by refine⟨bw.aG ho,λp hp=>?_⟩;obtain⟨g,J,R,U,I⟩:=h p hp;refine⟨?_,I⟩;have:=Bs.whole R om;rw[I]at this;rw[J];exact this
theorem pL: (prog.info? 225).map (λi=>(i.zero,i.size,i.bytes))=some (some (.agg #[i6 0,.slice none 0 0]),2,32):=by kernel_rfl
def qo (w:World) (ps:List Pc) (e:Ending) (w':World):Prop:=∃u qs,e=.returned u/\qs.map nl=ps.map nl/\Own w.heap.size w' qs/\w'.ownsRow w.heap.size 225 2 u qs.length (aZ qs)/\Bw w w'
theorem oR (v:Value) (ps:List Pc) (w:World) (h:fj w w.heap.size v ps) (hl:ps.length<=100000):
 Calls prog 126 #[v] w (qo w ps):=by
 obtain⟨A,c,rfl,hc,hm,I⟩:=h.open_;have H:=ja h;have HC:=ja I;clear h I;go_enter func126,ntmps126;go_wp2;go_loopw [3,5,8] (λu3 _ i wr=>∃(k:Nat) (qs:List Pc),k<=ps.length/\i=i6 k/\qs.map nl=(ps.take k).map nl/\Own w.heap.size wr qs/\wr.ownsRow w.heap.size 225 2 u3 qs.length (aZ qs)/\Bw w wr) (λ_ _ i _=>ps.length-(intOf i).toNat)
 case atStart=>exact⟨0,[],Nat.zero_le _,rfl,rfl,(λ_ hq=>(by cases hq)),World.ownsRow_nil _ _ _ _,Below.refl _ _⟩
 case round=>
  obtain⟨k,qs,hk,rfl,o,ho,J,hb⟩:=hrel;by_cases A4:k<ps.length
  ·obtain⟨_,_,Aa,_,_,I⟩:=(H.a.ext lh hb).open_;cases Aa;obtain⟨b,off,rfl,As,x0,x1⟩:=I k A4;rw[show off+(k*2+1)=off+k*2+1 by omega]at x1;have A3:=List.getElem_mem A4;obtain⟨hB,A5⟩:=(H.a.up hb).2 _ A3;have Ab:=ja (List.take_succ_eq_append_getElem A4);have A0:qs.length=k:=(by have:=congrArg List.length o;simp at this;omega);generalize ps[k]=p at*;obtain⟨pn,pv,pl⟩:=p;simp only at hB A5 x0 x1;obtain⟨A',c',rfl,Au,Av,_⟩:=hB.open_;have b5:=(Below.refl wr.heap.size wr).alloc lh (.cells #[i6 (pn:Int),.slice A' pl.length c'] 225);have HB:=ja ((hB.ext lh b5).more b5.size);have Ad:=ja (aD J b5);have HO:=ja (ho.ext b5);have HQ:=ja (⟨o,A0⟩:qs.map nl=(ps.take k).map nl/\qs.length=k);have A6:=ja (hb.trans (b5.mono hb.size));have A7:=ja A5;clear J o A0 ho hB A3 hb A5 b5;(go_wp2_with fail);refine(qG _ pn pl _ HB.a (Nat.le_of_eq A7.a)).mono ?_;rintro e w6 ⟨g6,rfl,k6,A8,b6⟩;have R:=ja (aD Ad.a b6);have A9:=HO.a.ext b6;have A2:=A6.a.trans (b6.mono A6.a.size);rw[show Pk.pad 128 pl=pl by unfold Pk.pad;rw[A7.a];simp]at k6;have AI:=ja k6;have Ae:=HQ.a.2;clear b6 k6;(go_wp2_with(at_builtin;refine bT ?_));refine aH rfl _ _ rfl rfl rfl sj underlying156 pL rfl dc R.a rfl (by simp[Value.oneCell']) (by rw[aq];omega) om A2.size ?_;intro v7 w7 A1 U;have Ah:=ja (A2.grown U A2.size (λj e=>(R.a.lt j e).1));have Ao:=ja (A9.grown R.a U);have Aq:=ja (AI.a.grown U (aW R.a AI.a dc));have Ar:=ja (show w.heap.size<=g6 from Nat.le_trans A6.a.size A8);have AR:=ja A1;clear A1 U A9 A2 Ae A8;go_wp2;go_roundw;case rel=>
    refine⟨k+1,qs++[⟨pn,.slice (some ⟨g6,0,none⟩) 128 128,pl⟩],by omega,by go_num,?_,?_,?_,Ah.a⟩
    ·rw[Ab.a,List.map_append,List.map_append,HQ.a.1];rfl
    ·intro q hq;rcases List.mem_append.1 hq with hq|hq
     ·exact Ao.a q hq
     ·rw[List.mem_singleton.1 hq];exact⟨g6,rfl,Aq.a,Ar.a,A7.a⟩
    ·rw[List.length_append,iU];exact AR.a
   case measure=>exact ms
  ·obtain rfl:k=ps.length:=(by omega);rw[List.take_length]at o;have HF:=ja (⟨o,ho,J,hb⟩:qs.map nl=ps.map nl/\Own w.heap.size wr qs/\wr.ownsRow w.heap.size 225 2 u3 qs.length (aZ qs)/\Bw w wr);clear o ho J hb;go_wp2;go_ret;obtain⟨h1,h2,h3,h4⟩:=HF.a;exact⟨_,qs,rfl,h1,h2,h3,h4⟩
end
end Sq
namespace Sq
open Go.RowKit
section
variable {w:World}
theorem KU {ps:List Pc} (h:ps.Pairwise λp q=>p.n<q.n) {i:Nat} (hi:i<ps.length):nw ps ps[i].n=i:=by
 have R:=sI (n:=ps[i].n) h i hi;have o:=tG ps ps[i].n;rcases Nat.lt_trichotomy (nw ps ps[i].n) i with I|heq|J
 ·have U:=sI (n:=ps[i].n) h (nw ps ps[i].n) om;have j:=(List.pairwise_iff_getElem.1 h) (nw ps ps[i].n) i om hi I;have:=U.2 j;omega
 ·exact heq
 ·have:=R.1 J;omega
def DY (w:World) (v:Value) (b:Bool) (e:Ending) (w':World):Prop:=e=.returned (.tuple #[v,.bool b])/\Bw w w'
theorem qT (v:Value) (ps:List Pc) (sz:Int) (n:Nat) (z:Int) (hz:z=n) (w:World) (hc:fj w w.heap.size v ps) (hp:ps.Pairwise λp q=>p.n<q.n) (hlc:ps.length<=100000) (i:Nat) (hi:i<ps.length) (hn:ps[i].n=n):
 Calls prog 128 #[.agg #[i6 sz,v],i6 z] w (DY w ps[i].v true):=by
 subst hz;have R:nw ps n=i:=by rw[<-hn];exact KU hp hi
 obtain⟨A',c',J,o,A0,-⟩:=(hc.2 _ (List.getElem_mem hi)).1.open_;rw[J];have A1:=ja J;clear J;obtain⟨A,c,rfl,A3,hm,_⟩:=hc.open_;have H:=ja hc;have HP:=ja hp;clear hc hp;go_enter func128,ntmps128;go_wp2_with fail
 have U:=(Below.refl w.heap.size w).alloc lh (.cells #[i6 sz,.slice A ps.length c] 158);have k0:=ak.new w 158 #[i6 sz,.slice A ps.length c];refine(cN _ ps sz n _ rfl _ (H.a.up U) HP.a hlc).mono ?_;rintro e w1 ⟨rfl,j⟩;have H1:=(H.a.up U).up j;have k1:=k0.ext j;have c1:w1.cell? (ae w.heap.size 1)=some (.slice A ps.length c):=k1.cell 1;rw[R];obtain⟨_,_,A2,_,_,I⟩:=H1.open_;cases A2;obtain⟨b,off,rfl,A4,x0,x1⟩:=I i hi;rw[A1.a]at x1;rw[hn]at x0;rw[show off+(i*2+1)=off+i*2+1 by omega]at x1;have e1: ((i:Int)==(ps.length:Int))=false:=by rw[beq_eq_false_iff_ne];omega
 have e2: ((n:Int) != (n:Int))=false:=bne_self_eq_false _;have HB:=ja (U.trans (j.mono U.size));clear U j H1 k1 k0 I R hn o A0;go_wp2;go_ret2;exact⟨rfl,HB.a⟩
theorem FW (v:Value) (ps:List Pc) (sz:Int) (n:Nat) (z:Int) (hz:z=n) (w:World) (hc:fj w w.heap.size v ps) (hp:ps.Pairwise λp q=>p.n<q.n) (hlc:ps.length<=100000) (hn:∀p∈ps,p.n≠n):
 Calls prog 128 #[.agg #[i6 sz,v],i6 z] w (DY w (.slice none 0 0) false):=by
 subst hz;obtain⟨A,c,rfl,A',hm,_⟩:=hc.open_;have H:=ja hc;have HP:=ja hp;have HN:=ja hn;have U:=tG ps n;clear hc hp hn;go_enter func128,ntmps128;go_wp2_with fail
 have J:=(Below.refl w.heap.size w).alloc lh (.cells #[i6 sz,.slice A ps.length c] 158);have k0:=ak.new w 158 #[i6 sz,.slice A ps.length c];refine(cN _ ps sz n _ rfl _ (H.a.up J) HP.a hlc).mono ?_;rintro e w1 ⟨rfl,R⟩;have H1:=(H.a.up J).up R;have k1:=k0.ext R;have c1:w1.cell? (ae w.heap.size 1)=some (.slice A ps.length c):=k1.cell 1;have HB:=ja (J.trans (R.mono J.size));by_cases hi:nw ps n<ps.length
 ·obtain⟨_,_,j,_,_,I⟩:=H1.open_;cases j;obtain⟨b,off,rfl,A0,x0,x1⟩:=I (nw ps n) hi;have o:=HN.a _ (List.getElem_mem hi);generalize nw ps n=i at*;generalize ps[i].n=pn at*;have e1: ((i:Int)==(ps.length:Int))=false:=(by rw[beq_eq_false_iff_ne];omega);have e2: ((pn:Int) != (n:Int))=true:=(by rw[bne_iff_ne];omega);clear J R H1 k1 k0 I x1 o;go_wp2;go_ret2;exact⟨rfl,HB.a⟩
 ·have e1: ((nw ps n:Int)==(ps.length:Int))=true:=(by rw[beq_iff_eq];omega);generalize nw ps n=i at*;clear J R H1 k1 k0 hi U;go_wp2;go_ret2;exact⟨rfl,HB.a⟩
end
end Sq
section
open Go.RowKit
abbrev KV:=List (Int×Value)
def vR (v:Value):Option (DataW Value×List MemPlace):=some (.held v,[])
def Aj (x:Int×Value):Lit×DataW Value:=(.int .i64 x.1,.held x.2)
def wW (l:KV):DataW Value:=.map (l.map Aj)
def dO (x:Int×Value):KV->KV
 |[]=>[x]
 |y::r=>if x.1<y.1 then x::y::r else y::dO x r
def bf (l:KV) (k:Int):KV:=l.filter (λy=> !decide (y.1=k))
def dk (l:KV) (k:Int) (v:Value):KV:=dO (k,v) (bf l k)
def bK (l:KV) (k:Int):Option Value:=(l.find? (λy=>decide (y.1=k))).map (·.2)
theorem lX (x:Int×Value) (k:Int): (Aj x).1.sameKey (.int .i64 k)=decide (x.1=k):=by simp[Aj,Lit.sameKey]
theorem AY (x:Int×Value):∀l:KV,(dO x l).map Aj=DataW.insert (Aj x) (l.map Aj)
 |[]=>rfl
 |y::r=>by
  have I: (Aj x).1.before (Aj y).1=decide (x.1<y.1):=rfl;unfold dO;rw[List.map_cons,DataW.insert,I];by_cases h:x.1<y.1
  ·rw[if_pos h,if_pos (decide_eq_true h)];rfl
  ·rw[if_neg h,if_neg (by rw[decide_eq_false h];decide),List.map_cons,AY x r]
theorem kX (k:Int):∀l:KV,(l.map Aj).filter (λp=> !p.1.sameKey (.int .i64 k))=(bf l k).map Aj
 |[]=>rfl
 |y::r=>by unfold bf;rw[List.map_cons,List.filter_cons,List.filter_cons,lX,kX k r];cases decide (y.1=k)<;>rfl
theorem Af (l:KV) (k:Int): (wW l).del (.int .i64 k)=wW (bf l k):=by show DataW.map _=DataW.map _;rw[kX]
theorem Ja (l:KV) (k:Int) (v:Value): (wW l).put (.int .i64 k) (.held v)=wW (dk l k v):=by show DataW.map _=DataW.map _;unfold dk;rw[kX,AY];rfl
theorem uw (k:Int):∀l:KV,(l.map Aj).find? (λp=>p.1.sameKey (.int .i64 k))=(l.find? (λy=>decide (y.1=k))).map Aj
 |[]=>rfl
 |y::r=>by rw[List.map_cons,List.find?_cons,List.find?_cons,lX,uw k r];cases decide (y.1=k)<;>rfl
theorem zu (l:KV) (k:Int) (z:Value): (wW l).atKey (.int .i64 k) (.held z)=.held ((bK l k).getD z):=by unfold wW bK DataW.atKey;dsimp only;rw[uw];cases l.find? (λy=>decide (y.1=k))<;>rfl
theorem zZ (l:KV) (k:Int):Maps.has (wW l) (.int .i64 k)=(bK l k).isSome:=by
 unfold wW bK Maps.has;dsimp only;rw[Option.isSome_map];induction l with
 |nil=>rfl
 |cons y r ih=>rw[List.map_cons,List.any_cons,lX,List.find?_cons,ih];cases decide (y.1=k)<;>rfl
theorem oJ (l:KV):Maps.size (wW l)=l.length:=by show(l.map Aj).length=_;rw[List.length_map]
theorem dq (k:Int):bK [] k=none:=rfl
theorem bp (y:Int×Value) (l:KV) (k:Int):bK (y::l) k=if y.1=k then some y.2 else bK l k:=by
 unfold bK;rw[List.find?_cons];by_cases h:y.1=k
 ·rw[decide_eq_true h,if_pos h];rfl
 ·rw[decide_eq_false h,if_neg h]
theorem lj {l:KV} {k:Int} (h:∀y∈l,y.1≠k):bK l k=none:=by
 induction l with
 |nil=>rfl
 |cons y r ih=>rw[bp,if_neg (h y List.mem_cons_self),ih λz I=>h z (List.mem_cons_of_mem _ I)]
theorem qC (x:Int×Value) (k:Int):∀l:KV,(∀y∈l,y.1≠x.1)->bK (dO x l) k=if x.1=k then some x.2 else bK l k
 |[],_=>by unfold dO;rw[bp]
 |y::r,h=>by
  unfold dO;split
  ·rw[bp]
  ·rw[bp,qC x k r λz J=>h z (List.mem_cons_of_mem _ J),bp];have R:=h y List.mem_cons_self;by_cases I:y.1=k
   ·rw[if_pos I,if_neg (λe=>R (I.trans e.symm)),if_pos I]
   ·rw[if_neg I,if_neg I]
theorem j5 {l:KV} {k:Int} {y:Int×Value}:y∈bf l k↔y∈l/\y.1≠k:=by unfold bf;rw[List.mem_filter];simp
theorem wU (l:KV) (k k':Int):bK (bf l k) k'=if k=k' then none else bK l k':=by
 induction l with
 |nil=>unfold bf;simp[dq]
 |cons y r ih=>
  have e:bf (y::r) k=if y.1=k then bf r k else y::bf r k:=(by unfold bf;rw[List.filter_cons];by_cases h:y.1=k<;>simp[h]);rw[e,bp];by_cases h:y.1=k
  ·rw[if_pos h,ih];by_cases I:k=k'
   ·rw[if_pos I,if_pos I]
   ·rw[if_neg I,if_neg I,if_neg (λe=>I (h.symm.trans e))]
  ·rw[if_neg h,bp,ih];by_cases J:y.1=k'
   ·rw[if_pos J,if_pos J,if_neg (λe=>h (J.trans e.symm))]
   ·rw[if_neg J,if_neg J]
theorem fW (l:KV) (k k':Int) (v:Value):bK (dk l k v) k'=if k=k' then some v else bK l k':=by
 unfold dk;rw[qC _ _ _ λy I=>(j5.1 I).2,wU];by_cases h:k=k'
 ·rw[if_pos h,if_pos h]
 ·rw[if_neg h,if_neg h,if_neg h]
def bY (l:KV):Prop:=l.Pairwise (λx y=>x.1<y.1)
theorem j6 {x y:Int×Value}:∀{l:KV},y∈dO x l↔y=x\/y∈l
 |[]=>by unfold dO;simp
 |z::r=>by
  unfold dO;split
  ·simp
  ·rw[List.mem_cons,j6,List.mem_cons];constructor
   ·rintro(h|h|h)
    ·exact .inr (.inl h)
    ·exact .inl h
    ·exact .inr (.inr h)
   ·rintro(h|h|h)
    ·exact .inr (.inl h)
    ·exact .inl h
    ·exact .inr (.inr h)
theorem qE (x:Int×Value):∀{l:KV},bY l->(∀y∈l,y.1≠x.1)->bY (dO x l)
 |[],_,_=>by unfold dO bY;simp
 |z::r,h,hx=>by
  unfold bY at h;rw[List.pairwise_cons]at h;unfold dO;split
  ·rename_i hlt;unfold bY;rw[List.pairwise_cons,List.pairwise_cons];refine⟨λy I=>?_,h⟩;rcases List.mem_cons.1 I with rfl|I
   ·exact hlt
   ·exact Int.lt_trans hlt (h.1 y I)
  ·rename_i hlt;unfold bY;rw[List.pairwise_cons];refine⟨λy I=>?_,qE x h.2 λy I=>hx y (List.mem_cons_of_mem _ I)⟩;rcases j6.1 I with rfl|I
   ·have:=hx z List.mem_cons_self;omega
   ·exact h.1 y I
theorem wQ {l:KV} (h:bY l) (k:Int):bY (bf l k):=List.Pairwise.filter _ h
theorem mJ {l:KV} (h:bY l) (k:Int) (v:Value):bY (dk l k v):=qE _ (wQ h k) λ_ I=>(j5.1 I).2
theorem fR:bY []:=List.Pairwise.nil
theorem qe:∀{l m:KV},bY l->bY m->(∀k,bK l k=bK m k)->l=m
 |[],[],_,_,_=>rfl
 |[],y::m,_,_,h=>by have:=h y.1;rw[bp,if_pos rfl]at this;cases this
 |x::l,[],_,_,h=>by have:=h x.1;rw[bp,if_pos rfl]at this;cases this
 |x::l,y::m,hl,hm,h=>by
  unfold bY at hl hm;rw[List.pairwise_cons]at hl hm;have nl:∀k,k<=x.1->bK l k=none:=λk I=>lj λz hz e=>(by have:=hl.1 z hz;omega);have nm:∀k,k<=y.1->bK m k=none:=λk I=>lj λz hz e=>(by have:=hm.1 z hz;omega);have J:x.1=y.1:=by
   rcases Int.lt_trichotomy x.1 y.1 with R|heq|U
   ·have:=h x.1;rw[bp,if_pos rfl,bp,if_neg om,nm _ om]at this;cases this
   ·exact heq
   ·have:=h y.1;rw[bp,if_neg om,nl _ om,bp,if_pos rfl]at this;cases this
  have j:x.2=y.2:=(by have:=h x.1;rw[bp,if_pos rfl,bp,if_pos J.symm]at this;injection this);have e:x=y:=Prod.ext J j;subst e;rw[qe hl.2 hm.2 λk=>?_];by_cases I:k=x.1
  ·subst I;rw[nl _ (Int.le_refl _),nm _ (Int.le_refl _)]
  ·have:=h k;rw[bp,if_neg (λe=>I e.symm),bp,if_neg (λe=>I e.symm)]at this;exact this
section
variable {P:Program} {K E t:TypeId} {w w':World} {b n:Nat} {l:KV}
def ay (w:World) (P:Program) (K:TypeId) (b:Nat) (l:KV):Prop:=w.ownsMap P K vR b l.length (wW l)
theorem ay.of (h:w.ownsMap P K vR b n (wW l)):ay w P K b l:=by
 obtain⟨es,clock,J,F,hs,I⟩:=h;refine⟨es,clock,J,F,?_,I⟩;have:=congrArg Maps.size I;rw[oJ]at this;have R:Maps.size (DataW.map ((es.toList.map (Go.WideElems.rg P K vR)).foldr DataW.insert []))=es.size:=by simp[Maps.size,length_sorted]
 rw[R]at this;omega
theorem ay.lt (h:ay w P K b l):b<w.heap.size:=World.ownsMap.lt h
theorem ay.kept {row:Option Nat} (h:ay w P K b l) (hg:w.grownBy w' row) (hne:some b≠row):ay w' P K b l:=World.ownsMap.kept h hg hne
theorem ay.alloc (h:ay w P K b l) (o:Obj):ay (w.alloc o) P K b l:=World.ownsMap.alloc h o
theorem ay.drew (h:ay w P K b l):ay w.drew P K b l:=h
theorem ay.ext (h:ay w P K b l) (hb:Bw w w'):ay w' P K b l:=h.kept (aI hb none) sj
theorem ay.setCell (h:ay w P K b l) {a:Addr} (ha:b≠a.block) (u:Value):ay (w.setCell a u) P K b l:=World.ownsMap.setCell h ha u
theorem ay.made (w:World) (P:Program) (K:TypeId):ay (w.alloc (.map #[] 0)) P K w.heap.size []:=World.ownsMap_made w P K vR
theorem ay.look (h:ay w P K b l) (hK:P.underlying K=some (.int .i64)) (ht:P.underlying t=some (.map K E)) {z:Value} (hz: (zeroValue E).run P w=.ok z w) (k:Int) (hk: (Lit.int .i64 k).wf=true):
 (Instr.lookup t (.map (some b)) (.int .i64 k) false).run P w=.ok ((bK l k).getD z) w:=by
 obtain⟨v,ps,J,I⟩:=World.ownsMap.lookup h (Maps.int_keyed hK) ht hz (zd:=.held z) rfl (Maps.keyOf_int_mk hK hk);rw[zu]at I;unfold vR at I;injection I with I;injection I with I;injection I with I;rw[J,I]
theorem ay.gw (h:ay w P K b l) (hK:P.underlying K=some (.int .i64)) (ht:P.underlying t=some (.map K E)) {z:Value} (hz: (zeroValue E).run P w=.ok z w) (k:Int) (hk: (Lit.int .i64 k).wf=true):
 (Instr.lookup t (.map (some b)) (.int .i64 k) true).run P w=.ok (.tuple #[(bK l k).getD z,.bool (bK l k).isSome]) w:=by
 obtain⟨v,ps,J,I⟩:=World.ownsMap.look_ok h (Maps.int_keyed hK) ht hz (zd:=.held z) rfl (Maps.keyOf_int_mk hK hk);rw[zu]at I;unfold vR at I;injection I with I;injection I with I;injection I with I;rw[J,I,zZ]
theorem ay.store (h:ay w P K b l) (hK:P.underlying K=some (.int .i64)) (ht:P.underlying t=some (.map K E)) (hn:l.length<maxLen) (k:Int) (hk: (Lit.int .i64 k).wf=true) (v:Value):
 ∃w',(Instr.mapUpdate t (.map (some b)) (.int .i64 k) v).run P w=.ok () w'/\ay w' P K b (dk l k v)/\w.mapTurned w' b:=by
 obtain⟨w',I,J,hm⟩:=World.ownsMap.store h (Maps.int_keyed hK) ht hn (Maps.keyOf_int_mk hK hk) (val:=v) (d:=.held v) rfl;rw[Ja]at J;exact⟨w',I,ay.of J,hm⟩
theorem ay.drop (h:ay w P K b l) (hK:P.underlying K=some (.int .i64)) (ht:P.underlying t=some (.map K E)) (k:Int) (hk: (Lit.int .i64 k).wf=true) (ty:TypeId):
 ∃w',(Builtin.delete_ #[t,K] ty #[.map (some b),.int .i64 k]).run P w=.ok (.tuple #[]) w'/\ay w' P K b (bf l k)/\w.mapTurned w' b:=by
 obtain⟨w',I,J,hm⟩:=World.ownsMap.drop h (Maps.int_keyed hK) ht (Maps.keyOf_int_mk hK hk) ty;rw[Af]at J;exact⟨w',I,ay.of J,hm⟩
theorem ay.len (h:ay w P K b l) (ht:P.underlying t=some (.map K E)) (ty:TypeId): (Builtin.len_ #[t] ty #[.map (some b)]).run P w=.ok (i6 l.length) w:=by have:=World.ownsMap.len h ht ty;rw[oJ]at this;exact this
def aL (w:World) (P:Program) (K:TypeId) (b r:Nat) (l rem:KV):Prop:=∃(left:Lit->Bool) (cnt:Nat),w.ranges P K vR b r l.length (wW l) left cnt/\rem=l.filter (λy=>left (.int .i64 y.1))/\∀kl,left kl=true->∃x∈l,kl=.int .i64 x.1
theorem Bm {l:KV} {k:Int} {v:Value} (h:bK l k=some v): (k,v)∈l:=by unfold bK at h;obtain⟨y,I,rfl⟩:=Option.map_eq_some_iff.1 h;have J:=List.find?_some I;have R:=List.mem_of_find?_eq_some I;have:y.1=k:=of_decide_eq_true J;subst this;exact R
theorem aL.start (h:ay w P K b l) (hK:P.underlying K=some (.int .i64)) (ht:P.underlying t=some (.map K E)):
 ∃w',(Instr.range t (.map (some b))).run P w=.ok (pt w.heap.size 0) w'/\aL w' P K b w.heap.size l l/\w.grownBy w' none/\w'.heap.size=w.heap.size+1:=by
 obtain⟨w',J,R,U,j⟩:=World.ownsMap.range h (Maps.int_keyed hK) ht;have o:∀x∈l,Maps.has (wW l) (.int .i64 x.1)=true:=λx hx=>by rw[zZ];unfold bK;rw[Option.isSome_map,List.find?_isSome];exact⟨x,hx,decide_eq_true rfl⟩
 refine⟨w',J,⟨_,_,R,?_,λkl I=>?_⟩,U,j⟩
 ·exact(List.filter_eq_self.2 o).symm
 ·unfold wW Maps.has at I;obtain⟨p,hp,hs⟩:=List.any_eq_true.1 I;obtain⟨x,hx,rfl⟩:=List.mem_map.1 hp;refine⟨x,hx,?_⟩;unfold Aj at hs;dsimp only at hs;cases kl with
  |int q a=>simp[Lit.sameKey]at hs;obtain⟨rfl,rfl⟩:=hs;rfl
  |_=>simp[Lit.sameKey]at hs
theorem aL.owns {r:Nat} {rem:KV} (h:aL w P K b r l rem):ay w P K b l:=by obtain⟨left,I,h,_,_⟩:=h;exact h.owns
theorem aL.kept {r:Nat} {rem:KV} {row:Option Nat} (h:aL w P K b r l rem) (hg:w.grownBy w' row) (hb:some b≠row) (hr:some r≠row):aL w' P K b r l rem:=by obtain⟨left,I,h,e,f⟩:=h;exact⟨left,I,h.kept hg hb hr,e,f⟩
end
end
section
open Go.RowKit
structure af (X:Nat->Prop) (w w':World):Prop where
 os:w'.os=w.os
 tape:w'.tape=w.tape
 output:w'.output=w.output
 size:w.heap.size<=w'.heap.size
 block:∀k,k<w.heap.size->¬X k->w'.heap[k]? =w.heap[k]?
theorem af.refl (X:Nat->Prop) (w:World):af X w w:=⟨rfl,rfl,rfl,Nat.le_refl _,λ_ _ _=>rfl⟩
theorem af.aj {X:Nat->Prop} {w w':World} (h:Bw w w'):af X w w':=⟨h.os,h.tape,h.output,h.size,λk I _=>h.block k I⟩
theorem af.bt {X:Nat->Prop} {w w':World} {row:Option Nat} (h:w.grownBy w' row) (hX:∀g,row=some g->X g):af X w w':=⟨h.os,h.tape,h.output,h.size,λk I J=>h.block k I (λe=>J (hX k e.symm))⟩
theorem af.trans {X Y:Nat->Prop} {a b c:World} (h:af X a b) (k:af Y b c) (hY:∀i,Y i->X i\/a.heap.size<=i):af X a c:=⟨k.os.trans h.os,k.tape.trans h.tape,k.output.trans h.output,Nat.le_trans h.size k.size,λi hi I=>(k.block i (Nat.lt_of_lt_of_le hi h.size) (λe=>(hY i e).elim I (λhle=>by omega))).trans (h.block i hi I)⟩
theorem af.mono {X Y:Nat->Prop} {a b:World} (h:af X a b) (hXY:∀i,X i->Y i):af Y a b:=⟨h.os,h.tape,h.output,h.size,λi hi I=>h.block i hi (λe=>I (hXY i e))⟩
theorem af.bm {X:Nat->Prop} {a b:World} {B:Nat} (h:af X a b) (hB:B<=a.heap.size) (hX:∀i,X i->B<=i):Below B a b:=⟨h.os,h.tape,h.output,h.size,λi hi=>h.block i om (λe=>by have:=hX i e;omega)⟩
section
variable {X:Nat->Prop} {w w':World}
theorem af.blk {g:Nat} {t:TypeId} {cs:List Value} (h:af X w w') (hk:ak w g t cs) (hX:¬X g):ak w' g t cs:=(h.block g hk.lt hX).trans hk
theorem af.cell (h:af X w w') {p:Addr} (hp:p.block<w.heap.size) (hX:¬X p.block):w'.cell? p=w.cell? p:=World.cell?_of_block (h.block p.block hp hX)
theorem af.map {P:Program} {K:TypeId} {b:Nat} {l:KV} (h:af X w w') (hm:ay w P K b l) (hX:¬X b):ay w' P K b l:=by obtain⟨es,clock,J,rest⟩:=hm;have I:b<w.heap.size:=(Array.getElem?_eq_some_iff.1 J).1;exact⟨es,clock,(h.block b I hX).trans J,rest⟩
theorem af.fe {B sz n:Nat} {v:Value} {xs:List Value} (h:af X w w') (hr:bw w B sz v n xs) (hB:B<=w.heap.size) (hX:∀g,v.ownBlock=some g->¬X g):bw w' B sz v n xs:=by obtain⟨A,c,rfl,I,J,R,U⟩:=hr;refine⟨A,c,rfl,I,J,R,λo=>?_⟩;obtain⟨b,off,rfl,hb,hc⟩:=U o;exact⟨b,off,rfl,hb,λj u hu=>(h.cell (p:=ae b (off+j)) (by show b<_;omega) (hX b rfl)).trans (hc j u hu)⟩
end
end
namespace Sq
open Go.RowKit
section
variable {P:Program} {w:World} {g:Nat} {t:TypeId} {cs:List Value}
theorem jC (h:ak w g t cs) {B o n m c c':Nat} {A:Option Addr} {xs:List Value} (dT ty elem:TypeId)
 (hu:P.underlying dT=some (.slice elem)) (hs: (P.info? elem).map (·.size)=some 1) (hr:bw w B 1 (.slice A m c) m xs) (h1:∀u∈xs,u.oneCell'=true) (ho:o+n<=cs.length):
 ∃w2,(Builtin.copy_ #[dT,dT] ty #[.slice (some ⟨g,o,none⟩) n c',.slice A m c]).run P w=.ok (i6 ((min m n:Nat):Int)) w2/\ak w2 g t (cs.take o++xs.take (min m n)++cs.drop (o+min m n))/\(∀(B':Nat) (a:World),B'<=g->Below B' a w->Below B' a w2)/\af (· =g) w w2/\w2.heap.size=w.heap.size:=by
 obtain⟨A',c2,he,h2,h3,R,U⟩:=hr;injection he with e1 e2 e3;subst e1 e3;rw[Nat.mul_one]at R;by_cases hm:min m n=0
 ·refine⟨w,?_,by rw[hm,List.take_zero,List.append_nil,Nat.add_zero,List.take_append_drop];exact h,λ_ _ _ I=>I,af.refl _ _,rfl⟩;rw[hm];exact run_copy_none w dT dT ty elem _ _ _ _ _ _ hu hs (by show Nat.min m n=0;omega)
 ·obtain⟨b,off,rfl,I,hc⟩:=U om;have hlen: (xs.take (min m n)).length=min m n:=(by rw[List.length_take,R];omega);have hr:=run_copy_row (P:=P) w dT dT ty elem g o n c' (ae b off) m c cs.toArray t (xs.take (min m n)) hu hs h hlen
   (λj v J=>by
    rw[Addr.add_mid];rw[List.getElem?_take]at J;split at J
    ·exact hc j v J
    ·cases J) (by simp;omega) (λu hu=>h1 u (List.mem_of_mem_take hu))
  refine⟨w.setRow g (cs.toArray.toList.take o++xs.take (min m n)++cs.toArray.toList.drop (o+(xs.take (min m n)).length)).toArray,?_,?_,λ_ _ hg I=>fL I hg _,⟨rfl,rfl,rfl,by simp,λk _ hn=>setRow_other w g k _ hn⟩,by simp⟩
  ·rw[hr,hlen];rfl
  ·have:=h.row (cs.toArray.toList.take o++xs.take (min m n)++cs.toArray.toList.drop (o+(xs.take (min m n)).length)).toArray;rw[hlen]at this|-;simpa using this
end
theorem FL (d l:List UInt8) (n:Nat) (hl:l.length=128) (hz:∀j,d.length<=128*n+j->l.getD j 0=0): (d.drop (128*n)).take 128++l.drop ((d.drop (128*n)).take 128).length=Sp.blk d n:=by
 have hle:=List.length_take_le 128 (d.drop (128*n));refine Sp.jM (by rw[List.length_append,List.length_drop,hl,Sp.aM];omega) λj R=>?_;rw[List.length_append,List.length_drop,hl]at R;have I:j<128:=by omega
 rw[Sp.iT d n j I,List.getD_eq_getElem?_getD,List.getElem?_append];split
 ·rename_i hlt;rw[List.getElem?_take,if_pos I,List.getElem?_drop,<-List.getD_eq_getElem?_getD]
 ·rename_i hge;rw[List.getElem?_drop,show((d.drop (128*n)).take 128).length+(j-((d.drop (128*n)).take 128).length)=j by omega,<-List.getD_eq_getElem?_getD];rw[List.length_take,List.length_drop]at hge;have J:d.length<=128*n+j:=(by omega);rw[hz j J,List.getD_eq_getElem?_getD,List.getElem?_eq_none J];rfl
theorem copied (d l:List UInt8) (k:Nat) (hl:l.length=128) (hz:∀j,d.length<=128*k+j->l.getD j 0=0):
 (dU l).take 0++(dU (d.drop (k*128))).take (min (d.length-k*128) 128)++(dU l).drop (0+min (d.length-k*128) 128)=dU (Sp.blk d k):=by
 have e:=FL d l k hl hz;have hlen: ((d.drop (128*k)).take 128).length=min (d.length-k*128) 128:=by rw[List.length_take,List.length_drop,Nat.mul_comm];omega
 rw[hlen]at e;rw[<-e,List.take_zero,List.nil_append,Nat.zero_add];unfold dU;rw[List.map_append,<-List.map_take,<-List.map_drop,Nat.mul_comm k 128];congr 2;rcases Nat.le_total 128 (d.length-128*k)with h|h
 ·rw[Nat.min_eq_right h]
 ·rw[Nat.min_eq_left h,List.take_of_length_le (by rw[List.length_drop];omega),List.take_of_length_le (by rw[List.length_drop];omega)]
theorem qV (A:Option Addr) (n c k:Nat) (hk:k<=c) (z:Int) (hz:z=k) (W:World):
 (Instr.slice 156 (.slice A n c) none (some (i6 z)) none).run prog W=.ok (.slice A k c) W:=by
 subst hz;rw[run_slice_h _ _ _ _ _ kj .i64 _ om om,Int.toNat_natCast];have hs: (sizeOf (prog.elem 156)).run prog W=.ok 2 W:=kj;rw[hs];simp[Result.andThen,sliced];intro h;cases A<;>simp[Addr.add]
theorem rp (A:Option Addr) (n c k:Nat) (hk:k<=n) (z:Int) (hz:z=k) (W:World):
 (Instr.slice 156 (.slice A n c) (some (i6 z)) none none).run prog W=.ok (.slice (if c=k then A else A.map (·.add (k*2))) (n-k) (c-k)) W:=by
 subst hz;rw[run_slice_l _ _ _ _ _ kj .i64 _ om om,Int.toNat_natCast];have hs: (sizeOf (prog.elem 156)).run prog W=.ok 2 W:=kj;rw[hs];rfl
theorem p5 (A:Option Addr) (c:Nat) (w:World):
 Calls prog 126 #[.slice A 0 c] w λe w'=>e=.returned (.slice none 0 0)/\w'=w:=by
 go_enter func126,ntmps126;go_wp2;go_loop [3,8] (λu3 i=>i=i6 0/\u3=.slice none 0 0) (λ_ _=>0)
 case atStart=>exact⟨rfl,rfl⟩
 case round=>obtain⟨rfl,rfl⟩:=hrel;go_wp2;go_ret;exact⟨rfl,rfl⟩
end Sq
namespace Co
open Go.RowKit
structure K where
 m:Value
 g1:Int
 g2:Int
 g3:Int
 g4:Int
 cache:Value
 aY:Nat
 maps:List Value
 bad:Nat
 used:List Value
 aU:Value
 nQ:List Value
 seq:Int
 at_:Int
 next:Int
 chain:Value
 aT:Int
structure C where
 k:K
 g:Nat
 files:Nat
 gone:Nat
 aB:Nat
 b_:KV
 cL:KV
 aF:List Value
 av:List Value
 tick:Int
 age:Int
 own:Nat->Nat
def C.now (c:C):List Value:=.map (some c.files)::(c.aF++(c.av++[Value.map (some c.gone),Value.map (some c.aB)]))
def C.tail (c:C):List Value:=.map (some c.k.aY)::(c.k.maps++(Value.map (some c.k.bad)::i6 c.tick::(c.k.used++[c.k.aU,i6 c.k.seq,i6 c.k.at_,i6 c.k.next,c.k.chain,.bool false,i6 c.age,i6 c.k.aT])))
def C.cells (c:C):List Value:=c.k.m::i6 c.k.g1::i6 c.k.g2::i6 c.k.g3::i6 c.k.g4::c.k.cache::(c.now++c.tail)
structure C.eI (c:C):Prop where
 aF:c.aF.length=120
 av:c.av.length=40
 maps:c.k.maps.length=8
 used:c.k.used.length=8
 dH:0<=c.tick
 dG:c.tick<=2147483647
section
variable {c:C}
theorem cB (h:c.eI):c.now.length=163:=by unfold C.now;simp only[List.length_cons,List.length_append,List.length_nil,h.aF,h.av]
theorem FH (h:c.eI):c.tail.length=27:=by unfold C.tail;simp only[List.length_cons,List.length_append,List.length_nil,h.maps,h.used]
theorem eu (h:c.eI):c.cells.length=196:=by unfold C.cells;simp only[List.length_cons,List.length_append,cB h,FH h]
theorem fJ {α:Type} {l m:List α} {n:Nat} (h:l.length=n) (i:Nat): (l++m)[n+i]? =m[i]? :=by rw[List.getElem?_append_right om,h,Nat.add_sub_cancel_left]
theorem zT {α:Type} {l m:List α} {i:Nat} (h:i<l.length): (l++m)[i]? =l[i]? :=List.getElem?_append_left h
theorem fN {α:Type} {l m:List α} {n:Nat} (h:l.length=n) (i:Nat) (v:α): (l++m).set (n+i) v=l++m.set i v:=by rw[List.set_append_right _ _ om,h,Nat.add_sub_cancel_left]
theorem zQ {α:Type} {l m:List α} {i:Nat} (h:i<l.length) (v:α): (l++m).set i v=l.set i v++m:=List.set_append_left _ _ h
theorem jX (h:c.eI) (i:Nat) (hi:i<163):c.cells[6+i]? =c.now[i]? :=by show(c.k.m::_)[6+i]? =_;rw[show 6+i=i+6 by omega];simp only[List.getElem?_cons_succ];exact zT (by rw[cB h];exact hi)
theorem vG (h:c.eI) (i:Nat):c.cells[169+i]? =c.tail[i]? :=by rw[show 169+i=(163+i)+6 by omega];show(c.k.m::_)[(163+i)+6]? =_;simp only[List.getElem?_cons_succ];exact fJ (cB h) i
theorem cg (h:c.eI):c.cells[6]? =some (.map (some c.files)):=jX h 0 dc
theorem fO (h:c.eI) (i:Nat) (hi:i<40):c.cells[127+i]? =c.av[i]? :=by rw[show 127+i=6+((120+i)+1) by omega,jX h _ om];unfold C.now;rw[List.getElem?_cons_succ,fJ h.aF];exact zT (by rw[h.av];exact hi)
theorem jq (h:c.eI):c.cells[167]? =some (.map (some c.gone)):=by rw[show 167=6+((120+(40+0))+1) by omega,jX h _ om];unfold C.now;rw[List.getElem?_cons_succ,fJ h.aF];exact fJ h.av 0
theorem eF (h:c.eI):c.cells[168]? =some (.map (some c.aB)):=by rw[show 168=6+((120+(40+1))+1) by omega,jX h _ om];unfold C.now;rw[List.getElem?_cons_succ,fJ h.aF];exact fJ h.av 1
theorem rI (h:c.eI):c.cells[169]? =some (.map (some c.k.aY)):=vG h 0
theorem yS (h:c.eI) (i:Nat):c.cells[178+i]? =(Value.map (some c.k.bad)::i6 c.tick::(c.k.used++[c.k.aU,i6 c.k.seq,i6 c.k.at_,i6 c.k.next,c.k.chain,.bool false,i6 c.age,i6 c.k.aT]))[i]? :=by rw[show 178+i=169+((8+i)+1) by omega,vG h];unfold C.tail;rw[List.getElem?_cons_succ,fJ h.maps]
theorem nR (h:c.eI):c.cells[178]? =some (.map (some c.k.bad)):=yS h 0
theorem fY (h:c.eI):c.cells[179]? =some (i6 c.tick):=yS h 1
theorem gL (h:c.eI) (i:Nat):c.cells[188+i]? =[c.k.aU,i6 c.k.seq,i6 c.k.at_,i6 c.k.next,c.k.chain,.bool false,i6 c.age,i6 c.k.aT][i]? :=by rw[show 188+i=178+(8+i+1+1) by omega,yS h,List.getElem?_cons_succ,List.getElem?_cons_succ,fJ h.used]
theorem o_ (h:c.eI):c.cells[188]? =some c.k.aU:=gL h 0
theorem zN (h:c.eI):c.cells[189]? =some (i6 c.k.seq):=gL h 1
theorem get_at (h:c.eI):c.cells[190]? =some (i6 c.k.at_):=gL h 2
theorem lZ (h:c.eI):c.cells[191]? =some (i6 c.k.next):=gL h 3
theorem jV (h:c.eI):c.cells[192]? =some c.k.chain:=gL h 4
theorem Gg (h:c.eI):c.cells[193]? =some (.bool false):=gL h 5
theorem gF (h:c.eI):c.cells[194]? =some (i6 c.age):=gL h 6
theorem jA (h:c.eI):c.cells[195]? =some (i6 c.k.aT):=gL h 7
theorem nN (h:c.eI) (i:Nat) (hi:i<163) (v:Value):c.cells.set (6+i) v=c.k.m::i6 c.k.g1::i6 c.k.g2::i6 c.k.g3::i6 c.k.g4::c.k.cache::(c.now.set i v++c.tail):=by unfold C.cells;rw[show 6+i=i+6 by omega];simp only[List.set_cons_succ];rw[zQ (by rw[cB h];exact hi)]
theorem set_tail (h:c.eI) (i:Nat) (v:Value):c.cells.set (169+i) v=c.k.m::i6 c.k.g1::i6 c.k.g2::i6 c.k.g3::i6 c.k.g4::c.k.cache::(c.now++c.tail.set i v):=by unfold C.cells;rw[show 169+i=(163+i)+6 by omega];simp only[List.set_cons_succ];rw[fN (cB h)]
theorem Cf (h:c.eI) (b:Nat):c.cells.set 6 (.map (some b))=C.cells {c with files:=b}:=by rw[show 6=6+0 from rfl,nN h 0 dc];rfl
theorem wG (h:c.eI) (i:Nat) (hi:i<40) (v:Value):c.cells.set (127+i) v=C.cells {c with av:=c.av.set i v}:=by rw[show 127+i=6+((120+i)+1) by omega,nN h _ om];unfold C.now;rw[List.set_cons_succ,fN h.aF,zQ (by rw[h.av];exact hi)];rfl
theorem FX (h:c.eI) (b:Nat):c.cells.set 167 (.map (some b))=C.cells {c with gone:=b}:=by rw[show 167=6+((120+(40+0))+1) by omega,nN h _ om];unfold C.now;rw[List.set_cons_succ,fN h.aF,show(c.av++[Value.map (some c.gone),.map (some c.aB)]).set 40 (.map (some b))=c.av++[Value.map (some c.gone),.map (some c.aB)].set 0 (.map (some b))from fN h.av 0 _];rfl
theorem vJ (h:c.eI) (b:Nat):c.cells.set 168 (.map (some b))=C.cells {c with aB:=b}:=by rw[show 168=6+((120+(40+1))+1) by omega,nN h _ om];unfold C.now;rw[List.set_cons_succ,fN h.aF,show(c.av++[Value.map (some c.gone),.map (some c.aB)]).set 41 (.map (some b))=c.av++[Value.map (some c.gone),.map (some c.aB)].set 1 (.map (some b))from fN h.av 1 _];rfl
theorem DN (h:c.eI) (i:Nat) (v:Value):c.cells.set (178+i) v=c.k.m::i6 c.k.g1::i6 c.k.g2::i6 c.k.g3::i6 c.k.g4::c.k.cache::(c.now++(.map (some c.k.aY)::(c.k.maps++(Value.map (some c.k.bad)::i6 c.tick::(c.k.used++[c.k.aU,i6 c.k.seq,i6 c.k.at_,i6 c.k.next,c.k.chain,.bool false,i6 c.age,i6 c.k.aT])).set i v))):=by rw[show 178+i=169+((8+i)+1) by omega,set_tail h];unfold C.tail;rw[List.set_cons_succ,fN h.maps]
theorem E2 (h:c.eI) (t:Int):c.cells.set 179 (i6 t)=C.cells {c with tick:=t}:=by rw[show 179=178+1 from rfl,DN h];rfl
theorem iK (h:c.eI) (i:Nat) (v:Value):c.cells.set (188+i) v=c.k.m::i6 c.k.g1::i6 c.k.g2::i6 c.k.g3::i6 c.k.g4::c.k.cache::(c.now++(.map (some c.k.aY)::(c.k.maps++(Value.map (some c.k.bad)::i6 c.tick::(c.k.used++[c.k.aU,i6 c.k.seq,i6 c.k.at_,i6 c.k.next,c.k.chain,.bool false,i6 c.age,i6 c.k.aT].set i v))))):=by rw[show 188+i=178+(8+i+1+1) by omega,DN h,List.set_cons_succ,List.set_cons_succ,fN h.used]
theorem Fh (h:c.eI) (v:Value) (cs:List Value):c.cells.set 188 v=C.cells {c with k:={c.k with aU:=v,nQ:=cs}}:=by rw[show 188=188+0 from rfl,iK h];rfl
theorem ID (h:c.eI) (n:Int):c.cells.set 189 (i6 n)=C.cells {c with k:={c.k with seq:=n}}:=by rw[show 189=188+1 from rfl,iK h];rfl
theorem LR (h:c.eI) (n:Int):c.cells.set 190 (i6 n)=C.cells {c with k:={c.k with at_:=n}}:=by rw[show 190=188+2 from rfl,iK h];rfl
theorem uB (h:c.eI) (n:Int):c.cells.set 191 (i6 n)=C.cells {c with k:={c.k with next:=n}}:=by rw[show 191=188+3 from rfl,iK h];rfl
theorem qK (h:c.eI) (v:Value):c.cells.set 192 v=C.cells {c with k:={c.k with chain:=v}}:=by rw[show 192=188+4 from rfl,iK h];rfl
theorem te (h:c.eI) (n:Int):c.cells.set 194 (i6 n)=C.cells {c with age:=n}:=by rw[show 194=188+6 from rfl,iK h];rfl
theorem uE (h:c.eI) (n:Int):c.cells.set 195 (i6 n)=C.cells {c with k:={c.k with aT:=n}}:=by rw[show 195=188+7 from rfl,iK h];rfl
theorem Me (h:c.eI):c.now=(c.cells.drop 6).take 163:=by show _=((c.now++c.tail).take 163);rw[<-cB h,List.take_left'];rfl
theorem qZ (h:c.eI):c.aF=(c.cells.drop 7).take 120:=by show _=(((c.aF++(c.av++[Value.map (some c.gone),Value.map (some c.aB)]))++c.tail).take 120);rw[List.append_assoc,<-h.aF,List.take_left'];rfl
theorem si (h:c.eI):c.k.maps=(c.cells.drop 170).take 8:=by
 have e:c.cells.drop 170=c.k.maps++(Value.map (some c.k.bad)::i6 c.tick::(c.k.used++[c.k.aU,i6 c.k.seq,i6 c.k.at_,i6 c.k.next,c.k.chain,.bool false,i6 c.age,i6 c.k.aT])):=by show(c.now++c.tail).drop 164=_;rw[show 164=163+1 from rfl,List.drop_append,cB h,List.drop_eq_nil_of_le (by rw[cB h];omega),List.nil_append];rfl
 rw[e,<-h.maps,List.take_left'];rfl
theorem G9 (h:c.eI):c.k.used=(c.cells.drop 180).take 8:=by
 have e:c.cells.drop 180=c.k.used++[c.k.aU,i6 c.k.seq,i6 c.k.at_,i6 c.k.next,c.k.chain,.bool false,i6 c.age,i6 c.k.aT]:=by show(c.now++c.tail).drop 174=_;rw[show 174=163+11 from rfl,List.drop_append,cB h,List.drop_eq_nil_of_le (by rw[cB h];omega),List.nil_append];show(c.k.maps++_).drop 10=_;rw[show 10=8+2 from rfl,List.drop_append,h.maps,List.drop_eq_nil_of_le (by rw[h.maps];omega),List.nil_append];rfl
 rw[e,<-h.used,List.take_left'];rfl
theorem Hb (h:c.eI) (c':C) (hl:c'.eI):mS c.cells 6 c'.now=c.k.m::i6 c.k.g1::i6 c.k.g2::i6 c.k.g3::i6 c.k.g4::c.k.cache::(c'.now++c.tail):=by
 unfold mS;rw[cB hl];have I:c.cells.take 6=[c.k.m,i6 c.k.g1,i6 c.k.g2,i6 c.k.g3,i6 c.k.g4,c.k.cache]:=rfl;have J:c.cells.drop (6+163)=c.tail:=by show(c.now++c.tail).drop 163=_;rw[List.drop_append,cB h,List.drop_eq_nil_of_le (by rw[cB h];omega),List.nil_append];rfl
 rw[I,J];rfl
theorem rq (h:c.eI) (ss:List Value) (hs:ss.length=120):mS c.cells 7 ss=C.cells {c with aF:=ss}:=by
 unfold mS;rw[hs];have I:c.cells.take 7=[c.k.m,i6 c.k.g1,i6 c.k.g2,i6 c.k.g3,i6 c.k.g4,c.k.cache,.map (some c.files)]:=rfl;have J:c.cells.drop (7+120)=(c.av++[Value.map (some c.gone),Value.map (some c.aB)])++c.tail:=by show((c.aF++(c.av++[Value.map (some c.gone),Value.map (some c.aB)]))++c.tail).drop 120=_;rw[List.append_assoc,List.drop_append,h.aF,List.drop_eq_nil_of_le (by rw[h.aF];omega),List.nil_append];rfl
 rw[I,J];unfold C.cells C.now;rw[<-List.append_assoc ss];rfl
end
end Co
end Go.Proofs.YtdhgejiacehpbaaGreatDoor
