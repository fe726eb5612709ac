import Derived.Test.YtdhgejiacehpbaaGreatDoorA16
set_option maxRecDepth 100000
set_option maxHeartbeats 16000000
set_option linter.all false
namespace Go.Proofs.YtdhgejiacehpbaaGreatDoor
open Go.Proofs.Tryz
namespace Co
open Go.RowKit
attribute [local go_sem] Oper.semAt_some
section
variable {w:World}
def su (j:Nat):Int:=(FO.take j).sum
theorem qM (j:Nat) (hj:j<9):∃z,FO[j]? =some z/\su j+z=su (j+1)/\0<=su j/\su j+z<=3621/\1<=z/\(j<6->z=1/\su j=j)/\(6<=j->z≠1):=by
 have:j=0\/j=1\/j=2\/j=3\/j=4\/j=5\/j=6\/j=7\/j=8:=by omega
 rcases this with rfl|rfl|rfl|rfl|rfl|rfl|rfl|rfl|rfl<;>exact⟨_,rfl,rfl,by decide,by decide,by decide,by decide,by decide⟩
theorem yE (hr:nW w) (g i:Nat) (hi:i<9) (hk:ak w g 3 [i6 (i:Int)]):
 Calls prog 261 #[.slice (some ⟨g,0,none⟩) 1 1] w λe w'=>e=.returned (.tuple (if i<6 then#[i6 (i:Int),i6 0]else#[i6 0,i6 4]))/\Bw w w':=by
 have x0:=hk.cell 0;have HR:=ja hr;obtain⟨z,R,U,o,h3,h4,h5,J⟩:=qM i hi;have HZ:=jg R U o h3 h4 h5 J;have A0:¬(i:Int)<0:=by omega
 have A1:¬(9:Int)<=(i:Int):=by omega
 clear hr hk R U o h3 h4 h5 J;go_enter func261,ntmps261;go_wp2;go_loopw [4,5,27] (λv4 _ I wr=>∃j:Nat,j<=i/\I=i6 (j:Int)/\v4=i6 (su j)/\w=wr) (λ_ _ I _=>i-(intOf I).toNat)
 case atStart=>exact⟨0,Nat.zero_le _,rfl,rfl,rfl⟩
 case round=>
  obtain⟨j,hj,rfl,rfl,rfl⟩:=hrel;by_cases A2:j<i
  ·obtain⟨z,R,U,o,h3,h4,h5,J⟩:=qM j om;have hc:=HR.a j z R;have hw:IntKind.i64.wrap (su j+z)=su j+z:=IntWalk.i64_in _ om;have A3:j<9:=(by omega);have H1:=ja U;clear U o h3 h4 h5 J R;go_wp2;go_roundw;case rel=>exact⟨j+1,by omega,by go_num,by rw[H1.a],trivial⟩
   case measure=>exact ms
  ·obtain rfl:j=i:=(by omega);have hc:=HR.a j z HZ.a;go_wp2;(go_loopw [4,6,8,44] (λv4 v6 _ A' wr=>A'=i6 0/\v6=i6 z/\v4=i6 (su j)/\w=wr) (λ_ _ _ _ _=>0));case atStart=>exact⟨rfl,rfl,rfl,rfl⟩
   case round=>
    obtain⟨rfl,rfl,rfl,rfl⟩:=hrel;by_cases J:j<6
    ·obtain⟨rfl,h⟩:=HZ.f J;rw[h];go_wp2;go_ret2;exact⟨rfl,Below.refl _ _⟩
    ·have A4:=HZ.g om;go_wp2;go_ret2;exact⟨rfl,Below.refl _ _⟩
theorem wD (g i:Nat) (h6:6<=i) (hi:i<9) (hk:ak w g 3 [i6 (i:Int)]):
 Calls prog 260 #[.slice (some ⟨g,0,none⟩) 1 1] w λe w'=>e=.returned (.tuple #[i6 ((i:Int)-6),i6 0])/\Bw w w':=by
 have x0:=hk.cell 0;have J:¬(i:Int)<6:=by omega
 have R:¬(8:Int)<(i:Int):=by omega
 have U:¬((i:Int)-6+1)<1:=by omega
 clear hk;go_enter func260,ntmps260;go_wp2;go_loopw [6,34] (λ_ I wr=>I=i6 0/\w=wr) (λ_ _ _=>0)
 case atStart=>exact⟨rfl,rfl⟩
 case round=>obtain⟨rfl,rfl⟩:=hrel;go_wp2;go_ret2;exact⟨rfl,Below.refl _ _⟩
theorem uq (hr:nW w) (b g i d n:Nat) (hi:i<9) (hk:ak w g 3 [i6 (i:Int)]) (cs:List Value) (hb:ak w b 260 cs) (h25:cs[25]? =some (.map (some d))) (h26:cs[26]? =some (.map (some n))) (hd:ay w prog 3 d []) (hn:ay w prog 3 n []):
 Calls prog 287 #[pt b 0,.slice (some ⟨g,0,none⟩) 1 1] w λe w'=>e=.returned (.agg #[i6 0,.int .u32 0])/\Below w.heap.size w w':=by
 have H:=je hr hk hb hd hn;clear hr hk hb hd hn;go_enter func287,ntmps287;go_upto_region 1 with fail
 obtain⟨r,j⟩:=ex w.heap.size;obtain⟨w0,e0,k0,b0,s0⟩:=ax w 38 #[i6 0,.int .u32 0] r j;rw[e0,j];have I:Below w.heap.size w w0:=j▸b0;have J:=ja (⟨λk n h=>(I.cell (p:=ae 0 k) (World.block_lt_of_cell? _ _ (H.a k n h))).trans (H.a k n h),H.b.ext I,H.c.ext I,H.d.ext I,H.e.ext I,k0,I⟩:nW w0/\_/\_/\_/\_/\_/\_);clear e0 k0 b0 s0 I H;go_wp2_with fail
 refine(yE J.a.1 g i hi J.a.2.1).mono ?_;rintro e w1 ⟨rfl,R⟩;by_cases h6:i<6
 ·rw[if_pos h6];have A0:w1.cell? (ae b 25)=some (.map (some d)):=((J.a.2.2.1.ext R).cell 25).trans h25;have U:=(J.a.2.2.2.1.ext R).look az underlying151 (z:=.agg #[i6 0,.int .u32 0]) kj (i:Int) (WalkArith.wf_i64 om);rw[dq]at U;simp only[Option.getD_none]at U;have k1:=J.a.2.2.2.2.2.1.ext R;have HB:=ja (J.a.2.2.2.2.2.2.trans (R.mono J.a.2.2.2.2.2.2.size));have f0:=k1.frozen 0;have f1:=k1.frozen 1;have c0:=k1.cell 0;have c1:=k1.cell 1;have K1:=ja k1;clear R k1;go_wp2;have z:=(K1.a.aC 0 (i6 0)).aC 1 (.int .u32 0);refine bodyPost_ret (v:=.agg #[i6 0,.int .u32 0]) (cZ [i6 0,.int .u32 0] _ results287 rfl z.range underlying38 rfl kj) rfl ?_;exact⟨rfl,(HB.a.setCell (p:=ae r 0) (by show _<=r;omega) _).setCell (p:=ae r 1) (by show _<=r;omega) _⟩
 ·rw[if_neg h6];have o:=ja (J.a.2.2.2.2.2.2.trans (R.mono J.a.2.2.2.2.2.2.size));have A':=ja (wD g i om hi (J.a.2.1.ext R));have H1:=jc (J.a.2.2.1.ext R) (J.a.2.2.2.2.1.ext R) (J.a.2.2.2.2.2.1.ext R);clear R;(go_wp2_with fail);refine A'.a.mono ?_;rintro e w2 ⟨rfl,b2⟩;have A1:w2.cell? (ae b 26)=some (.map (some n)):=((H1.a.ext b2).cell 26).trans h26;have U:=(H1.b.ext b2).look az underlying151 (z:=.agg #[i6 0,.int .u32 0]) kj ((i:Int)-6) (WalkArith.wf_i64 om);rw[dq]at U;simp only[Option.getD_none]at U;have k1:=H1.c.ext b2;have HB:=ja (o.a.trans (b2.mono o.a.size));have f0:=k1.frozen 0;have f1:=k1.frozen 1;have c0:=k1.cell 0;have c1:=k1.cell 1;have K1:=ja k1;clear b2 k1;go_wp2;have z:=(K1.a.aC 0 (i6 0)).aC 1 (.int .u32 0);refine bodyPost_ret (v:=.agg #[i6 0,.int .u32 0]) (cZ [i6 0,.int .u32 0] _ results287 rfl z.range underlying38 rfl kj) rfl ?_;exact⟨rfl,(HB.a.setCell (p:=ae r 0) (by show _<=r;omega) _).setCell (p:=ae r 1) (by show _<=r;omega) _⟩
end
end Co
namespace NdW
open Go.RowKit
def aZ (ps:List (Int×Nat)):List Value:=ps.flatMap λp=>[i6 p.1,.int .u32 (p.2:Int)]
def t_ (w:World) (B:Nat) (v:Value) (ps:List (Int×Nat)):Prop:=bw w B 2 v ps.length (aZ ps)
theorem cY (l:List (Int×Nat)): (aZ l).length=l.length*2:=by
 induction l with
 |nil=>rfl
 |cons x l ih=>unfold aZ at ih|-;rw[List.flatMap_cons,List.length_append,ih,List.length_cons,List.length_cons,List.length_cons,List.length_nil];omega
theorem mX (p:Int×Nat) (l:List (Int×Nat)):aZ (p::l)=i6 p.1:: .int .u32 (p.2:Int)::aZ l:=by unfold aZ;rw[List.flatMap_cons];rfl
theorem dL:∀(l:List (Int×Nat)) (k:Nat) (h:k<l.length),(aZ l)[k*2]? =some (i6 l[k].1)/\(aZ l)[k*2+1]? =some (.int .u32 (l[k].2:Int))
 |x::l,0,_=>⟨rfl,rfl⟩
 |x::l,k+1,h=>by have:=dL l k (by simpa using h);rw[mX,show(k+1)*2=k*2+1+1 by omega];exact this
theorem t_.open_ {w:World} {B:Nat} {v:Value} {l:List (Int×Nat)} (h:t_ w B v l):∃(A:Option Addr) (c:Nat),v=.slice A l.length c/\l.length<=c/\c<=9223372036854775807/\
 ∀(j:Nat) (hj:j<l.length),∃b off,A=some ⟨b,off,none⟩/\b<B/\w.cell? (ae b (off+j*2))=some (i6 l[j].1)/\w.cell? (ae b (off+j*2+1))=some (.int .u32 (l[j].2:Int)):=by
 obtain⟨A,c,J,R,U,h4,o⟩:=h;refine⟨A,c,J,R,U,λj hj=>?_⟩;obtain⟨b,off,e,hb,I⟩:=o om;have:=dL l j hj;exact⟨b,off,e,hb,I _ _ this.1,by have:=I _ _ this.2;rw[Nat.add_assoc];exact this⟩
theorem Cs (n:Int) (w:World):
 Calls prog 318 #[i6 n] w λe w'=>e=.returned (.bool (Nd.lQ n))/\w=w':=by
 by_cases h:1<=n
 ·have H:=ja (show Nd.lQ n=decide (n<=39) by unfold Nd.lQ;simp[h]);go_enter func318,ntmps318;go_wp2;go_ret;exact⟨by rw[H.a];rfl,rfl⟩
 ·have H:=ja (show Nd.lQ n=false by unfold Nd.lQ;simp[h]);go_enter func318,ntmps318;go_wp2;go_ret;exact⟨by rw[H.a];rfl,rfl⟩
theorem oQ (wd:Int) (v:Nat) (w:World) (hv:v<9223372036854775808):
 Calls prog 151 #[i6 wd,i6 (v:Int)] w λe w'=>e=.returned (.agg #[i6 wd,.int .u64 (v:Int)])/\Bw w w':=by
 go_enter func151,ntmps151;go_wp2;refine bodyPost_ret (v:=.agg #[i6 wd,.int .u64 (v:Int)]) (by simp[results,results151,go_sem]) rfl ⟨rfl,?_⟩;exact bh.alloc lh _
theorem iA (wd z:Int) (v:Nat) (hz:z=v) (w:World) (hv:v<9223372036854775808):
 Calls prog 151 #[i6 wd,i6 z] w λe w'=>e=.returned (.agg #[i6 wd,.int .u64 (v:Int)])/\Bw w w':=by
 subst hz;exact oQ wd v w hv
theorem rH (w:World) (v:Value) (L:List (Int×Nat)) (hG:a7 w) (h:ee w w.heap.size v L) (hn:L.length<=100) (hc:∀x∈L,Pk.iQ x=0) (hl: (Pk.bO L).length<=124):
 Calls prog 94 #[v] w (Made (Crc.bR (Pk.bO L)) w):=by
 have hu:=pC hc;have hp:=Pk.iM hc;have o:Pk.packed L=Pk.bO L:=by unfold Pk.packed;rw[if_pos hp]
 go_enter func94,ntmps94;go_wp2_with fail
 refine(ic _ _ _ L h lh om hu).mono ?_;rintro e w1 ⟨u,rfl,I,R⟩;rw[hp];rw[o]at I;have hs:Bs w1 w1.heap.size u (Pk.bO L):=Bs.aG I;clear I hp o;go_wp2_with fail
 refine(lJ _ _ _ _ (hG.ext R) hs lh hl).mono ?_;rintro e w2 ⟨u2,rfl,J,U⟩;have j:ju w.heap.size w2 u2 (Crc.bR (Pk.bO L)):=ju.aG (by rw[Crc.bH _ hl];exact J) R.size;go_wp2;go_ret2;exact⟨_,rfl,j,R.trans (U.mono R.size)⟩
theorem Dz {ps:List (Int×Nat)} {k:Nat} (hlt:k<ps.length) (h: (ps.take k).all Nd.dj=true) (h2:Nd.dj ps[k]=true): (ps.take (k+1)).all Nd.dj=true:=by rw[List.take_succ_eq_append_getElem hlt,List.all_append,h];simp[h2]
theorem Ly {ps:List (Int×Nat)} {k:Nat} (hlt:k<ps.length) (h2:Nd.dj ps[k]=false):ps.all Nd.dj=false:=by
 cases h:ps.all Nd.dj with
 |false=>rfl
 |true=>have:=List.all_eq_true.1 h ps[k] (List.getElem_mem hlt);rw[h2]at this;cases this
theorem mh (w:World) (v:Value) (B:Nat) (ps:List (Int×Nat)) (h:t_ w B v ps) (hB:B<=w.heap.size):
 Calls prog 93 #[v] w λe w'=>e=.returned (.bool (ps.all Nd.dj))/\Bw w w':=by
 obtain⟨A,c,rfl,hc,hm,R⟩:=h.open_;clear h;go_enter func93,ntmps93;go_wp2;go_loopw [7] (λi wr=>∃k:Nat,k<=ps.length/\i=i6 k/\(ps.take k).all Nd.dj=true/\Bw w wr) (λi _=>ps.length-(intOf i).toNat)
 case atStart=>exact⟨0,Nat.zero_le _,rfl,by simp,Below.refl _ _⟩
 case round=>
  obtain⟨k,hk,rfl,J,I⟩:=hrel;by_cases o:k<ps.length
  ·obtain⟨b,off,rfl,hb,A',A0⟩:=R k o;have A1:=cl I (Nat.lt_of_lt_of_le hb hB) A';have A2:=cl I (Nat.lt_of_lt_of_le hb hB) A0;have HY:=ja (λh=>Dz o J h);have j:=ja (λh=>Ly o h);clear A' A0 R J;generalize ps[k]=p at*;obtain⟨a,s⟩:=p;simp only at A1 A2;have U:=ja (show Nd.dj (a,s)=decide (0<=a/\a<=2147483647/\(a=0->s=0))from rfl);by_cases h0:a<0
   ·have H:=ja (j.a (by rw[U.a];simp;omega));clear j HY U;go_wp2;go_ret;exact⟨by rw[H.a];rfl,I.alloc I.size _⟩
   ·by_cases h1:2147483647<a
    ·have H:=ja (j.a (by rw[U.a];simp;omega));clear j HY U;go_wp2;go_ret;exact⟨by rw[H.a];rfl,I.alloc I.size _⟩
    ·by_cases h2:a=0
     ·subst h2;by_cases h3:s=0
      ·subst h3;have H:=ja (HY.a (by rw[U.a];decide));clear j HY U;go_wp2;go_roundw;case rel=>exact⟨k+1,by omega,by go_num,H.a,I.alloc I.size _⟩
       case measure=>exact ms
      ·have A3: ((s:Int) != 0)=true:=(by rw[bne_iff_ne];omega);have H:=ja (j.a (by rw[U.a];simp;omega));clear j HY U;go_wp2;go_ret;exact⟨by rw[H.a];rfl,I.alloc I.size _⟩
     ·have A4: (a==0)=false:=(by simpa using h2);have H:=ja (HY.a (by rw[U.a];simp;omega));clear j HY U;go_wp2;go_roundw;case rel=>exact⟨k+1,by omega,by go_num,H.a,I.alloc I.size _⟩
      case measure=>exact ms
  ·obtain rfl:k=ps.length:=(by omega);rw[List.take_length]at J;have H:=ja J;clear J R;go_wp2;go_ret;exact⟨by rw[H.a];rfl,I⟩
theorem ee.aG {w:World} {base:Nat} {e:TypeId} {v:Value} {l:List (Int×Nat)} (h:w.ownsRow base e 2 v l.length (bg l)):ee w w.heap.size v l:=bw.aG h
theorem nv (w:World) (v:Value) (B:Nat) (ps:List (Int×Nat)) (h:t_ w B v ps) (hB:B<=w.heap.size) (hn:ps.length<=100) (ha:ps.all Nd.dj=true) (hs:∀p∈ps,p.2<4294967296):
 Calls prog 95 #[v] w λe w'=>∃u,e=.returned u/\w'.ownsRow w.heap.size 200 2 u (pN ps).length (bg (pN ps))/\Bw w w':=by
 obtain⟨A,c,rfl,hc,hm,J⟩:=h.open_;clear h;have A4:=run_mk (P:=prog) underlying193 iS 0 (2*ps.length) om om om;simp only[Int.natCast_mul,Int.cast_ofNat_Int]at A4;go_enter func95,ntmps95;go_wp2;clear A4;have A':=World.ownsRow_made (e:=200) (size:=2) (base:=w.heap.size) w (madeCells #[i6 0,.int .u64 0] (2*ps.length*2)) (2*ps.length) lh (by rw[aq];omega) (by rw[size_madeCells]);have A5:=(Below.refl w.heap.size w).alloc lh (.cells (madeCells #[i6 0,.int .u64 0] (2*ps.length*2)) 200);generalize w.alloc (.cells (madeCells #[i6 0,.int .u64 0] (2*ps.length*2)) 200)=W0 at*;go_loopw [3,12] (λx i wr=>∃k:Nat,k<=ps.length/\i=i6 k/\wr.ownsRow w.heap.size 200 2 x (2*k) (bg (pN (ps.take k)))/\Bw w wr) (λ_ i _=>ps.length-(intOf i).toNat)
 case atStart=>exact⟨0,Nat.zero_le _,rfl,A',A5⟩
 case round=>
  obtain⟨k,hk,rfl,I,j⟩:=hrel;clear A' A5;by_cases A0:k<ps.length
  ·obtain⟨b,off,rfl,U,A6,A7⟩:=J k A0;have A8:=cl j (Nat.lt_of_lt_of_le U hB) A6;have AI:=cl j (Nat.lt_of_lt_of_le U hB) A7;have HS:=ja (show pN (ps.take (k+1))=pN (ps.take k)++[(4,ps[k].1.toNat),(4,ps[k].2)] by rw[List.take_succ_eq_append_getElem A0,y_];congr 1);have A1:=List.all_eq_true.1 ha ps[k] (List.getElem_mem A0);have Ad:=hs ps[k] (List.getElem_mem A0);unfold Nd.dj at A1;rw[decide_eq_true_iff]at A1;clear A6 A7 J ha hs;generalize ps[k]=p at*;obtain⟨o,s⟩:=p;simp only at A8 AI HS A1 Ad;obtain⟨o,rfl⟩:=Int.eq_ofNat_of_zero_le A1.1;rw[Int.toNat_natCast]at HS;have Ae:o<9223372036854775808:=(by omega);have Ah:s<9223372036854775808:=(by omega);(go_wp2_with fail);have Ao:=ak.new wr 38 #[i6 (o:Int),.int .u32 (s:Int)];have A3:=I.alloc (.cells #[i6 (o:Int),.int .u32 (s:Int)] 38);have Aq:=j.alloc j.size (.cells #[i6 (o:Int),.int .u32 (s:Int)] 38);generalize wr.alloc (.cells #[i6 (o:Int),.int .u32 (s:Int)] 38)=W1 at*;generalize wr.heap.size=gg at*;clear I j A8 AI;have AR:=And.intro Aq.drew (And.intro A3.drew Ao.drew);refine aQ 11 9 [(ez u3),(ez (pt gg 0)),(ez (i6 (o:Int))),(ez (.agg #[i6 4,.int .u64 (o:Int)])),(ez (pt gg 1)),(ez (.int .u32 (s:Int))),(ez (i6 (s:Int))),(ez (.agg #[i6 4,.int .u64 (s:Int)])),(λv x=>∃g,v=.slice (some ⟨g,0,none⟩) 2 2/\ak x g 200 [i6 4,.int .u64 (o:Int),i6 4,.int .u64 (s:Int)]/\u3.ownBlock≠some g)]
    (λx=>Bw w x/\x.ownsRow w.heap.size 200 2 u3 (2*k) (bg (pN (ps.take k)))/\ak x gg 38 [i6 (o:Int),.int .u32 (s:Int)]) kj rfl dc kj kj ?_ ?_ ?_ ?_
   ·exact AR
   ·exact⟨ah _,ah _,ah _,ah _,ah _,ah _,ah _,ah _,λ_ _ _ ⟨g,h1,h2,h3⟩ U=>⟨g,h1,h2.ext U,h3⟩,trivial⟩
   ·refine⟨rz [] [3],rz [] [5],?_,?_,rz [] [5],?_,rx [5,21] [] λx hG=>(IntWalk.i64_in _ om:IntKind.i64.wrap (s:Int)=(s:Int)),?_,?_,trivial⟩
    ·intro a x hG hd hs K hK;have B0:_=_:=hd 1 17 kj;clear hd hs;refine pj ?_;have hc:=hG.2.2.cell 0;simp only[List.getElem?_cons_zero]at hc;go_simp;exact hK _ _ rfl hG bh
    ·intro a x hG hd hs K hK;have B1:_=_:=hd 2 18 kj;clear hd hs;refine pj ?_;go_simp;refine(oQ 4 o _ Ae).mono ?_;rintro e w' ⟨rfl,U⟩;exact hK _ _ rfl ⟨hG.1.trans (U.mono hG.1.size),aD hG.2.1 U,hG.2.2.ext U⟩ U
    ·intro a x hG hd hs K hK;have B2:_=_:=hd 4 20 kj;clear hd hs;refine pj ?_;have hc:=hG.2.2.cell 1;simp only[List.getElem?_cons_zero,List.getElem?_cons_succ]at hc;go_simp;exact hK _ _ rfl hG bh
    ·intro a x hG hd hs K hK;have B3:_=_:=hd 6 22 kj;clear hd hs;refine pj ?_;go_simp;refine(oQ 4 s _ Ah).mono ?_;rintro e w' ⟨rfl,U⟩;exact hK _ _ rfl ⟨hG.1.trans (U.mono hG.1.size),aD hG.2.1 U,hG.2.2.ext U⟩ U
    ·intro a x hG hd hs K hK;have Ar:_=_:=hd 3 19 kj;have Ax:=aA Ar;have As:_=_:=hd 7 23 kj;have B':=aA As;clear hd hs;refine pj ?_;go_simp;have hn:=ak.new x 200 #[i6 4,.int .u64 (o:Int),i6 4,.int .u64 (s:Int)];refine hK _ _ ⟨x.heap.size,rfl,hn,λe=>?_⟩ ⟨hG.1.alloc hG.1.size _,hG.2.1.alloc _,hG.2.2.alloc _⟩ (bh.alloc lh _);have:=(hG.2.1.lt _ e).2;omega
   ·intro x hG;(iterate 8 rintro _ rfl);rintro _ ⟨g,rfl,Aa,Au⟩;simp only[ap];rw[show List.range' 9 (11-9)=[9,10]from rfl,wpOps_cons];obtain⟨v',w',A2,R,Ab,_⟩:=aE (P:=prog) (ty:=193) underlying193 iS rfl dc hG.2.1 (Aa.fe 0 2 2 2 sj om (by simp[maxLen])) (by simp[Value.oneCell']) (by simp[maxLen];omega) om hG.1.size;refine pj ?_;refine c_ 16 24 193 rfl rfl rfl A2 ?_;rw[wpOps_cons];refine pj ?_;have Av:=hG.1.grown Ab hG.1.size (λg hg=>(hG.2.1.lt g hg).1);obtain⟨A9,c9,rfl,_⟩:=bw.aG R;have Aw:=ja R;clear A2 R Ab Aa Au hG AR;(try simp only[Act.put]);go_simp;unfold wpOps;(try simp only[Exit.then]);go_wp2;go_roundw;case rel=>exact⟨k+1,by omega,by go_num,by rw[HS.a,eZ];exact Aw.a,Av⟩
    case measure=>exact ms
  ·obtain rfl:k=ps.length:=(by omega);rw[List.take_length]at I;rw[<-sQ]at I;clear J;go_wp2;go_ret;exact⟨_,rfl,I,j⟩
end NdW
namespace NdW
open Go.RowKit Go.ChangeShapes Go.WideShapes Go.ChangeAt
theorem Fk (w:World) (v:Value) (B:Nat) (ps:List (Int×Nat)) (h:t_ w B v ps) (hB:B<=w.heap.size) (hl:ps.length=15) (ha:ps.all Nd.dj=true) (hs:∀p∈ps,p.2<4294967296) (hH:a7 w):
 Calls prog 46 #[v] w (Made (Nd.NC ps) w):=by
 have HH:=ja h;have HC:=ja (Nd.LF ps hl ha hs);have j:=ja (Nd.IB ps hl);have HE:=ja (show Nd.NC ps=Crc.bR (Pk.bO (pN ps)) by unfold Nd.NC pN;rw[hl]);have HN:=ja (show(Nd.pW 15).zip (Nd.pV ps)=pN ps by unfold pN;rw[hl]);have J:=sQ ps;rw[hl]at J;have o:=ja J;obtain⟨A,c,rfl,hc,hm,_⟩:=h.open_;have A2: (((ps.length:Nat):Int) != 15)=false:=by rw[bne_eq_false_iff_eq];omega
 have A3:ps.length<=15:=by omega
 clear h hl J;go_enter func46,ntmps46;go_wp2_with fail
 refine(mh _ _ _ ps HH.a hB).mono ?_;rintro e w1 ⟨rfl,I⟩;rw[ha];go_wp2_with fail
 refine(nv _ _ _ ps (bw.ext HH.a hB I) (Nat.le_trans hB I.size) om ha hs).mono ?_;rintro e w2 ⟨u,rfl,R,A'⟩;have A0:ee w2 w2.heap.size u (pN ps):=ee.aG R;have c2:=I.trans (A'.mono I.size);go_wp2_with fail
 refine(rH _ _ _ (hH.ext c2) A0 (by rw[o.a];omega) (by rw[<-HN.a];exact HC.a) (by rw[<-HN.a,j.a];omega)).mono ?_;rintro e w3 ⟨q,rfl,U,A1⟩;rw[<-HE.a]at U;go_wp2;go_ret2;exact⟨_,rfl,U.le c2.size,c2.trans (A1.mono c2.size)⟩
def NY (at_:Int) (l:List UInt8):Bool:=decide (1<=at_/\at_<=2147483647/\l.length=128)
theorem LV (w:World) (at_:Int) (v:Value) (B:Nat) (l:List UInt8) (hH:a7 w) (h:Bs w B v l) (hB:B<=w.heap.size) (hn:NY at_ l=true):
 Calls prog 290 #[i6 at_,v] w λe w'=>e=.returned (.tuple #[.agg #[i6 at_,.int .u32 (Crc.sum l:Nat)],i6 0])/\Bw w w':=by
 have J:=ja h;obtain⟨A,c,rfl,o,hm,_⟩:=h.rP;clear h;unfold NY at hn;rw[decide_eq_true_iff]at hn;obtain⟨h1,h2,R⟩:=hn;have hl: (((l.length:Nat):Int) != 128)=false:=by rw[bne_eq_false_iff_eq];omega
 clear R;go_enter func290,ntmps290;go_wp2_with fail
 have U:=(J.a.ext hB ((Below.refl w.heap.size w).alloc lh (.cells #[i6 0,.int .u32 0] 38))).more (B':=(w.alloc (.cells #[i6 0,.int .u32 0] 38)).heap.size) (by simp;omega);refine(nT _ _ _ [l] ((hH.alloc _).alloc _) (oL.Jo _ U sj)).mono ?_;rintro e w' ⟨rfl,rfl⟩;simp only[List.flatten_cons,List.flatten_nil,List.append_nil];generalize I:Crc.sum l=SS;have j:=ja I;clear I;go_wp2;refine bodyPost_ret (v:=.tuple #[.agg #[i6 at_,.int .u32 (SS:Int)],i6 0]) (by simp[results,results290,go_sem]) rfl ⟨by rw[j.a],?_⟩;exact(bh.alloc lh _).alloc sj _
end NdW
namespace Co
open Go.RowKit
attribute [local go_sem] Oper.semAt_some
section
variable {w w':World} {S N g:Nat} {bl:List (List UInt8)}
structure Dg (S N g:Nat) (w:World) (bl:List (List UInt8)) (A:Option Addr) (c:Nat) (vb:Value) (us:List Value):Prop where
 blk:ak w g 377 [.slice A 5 c,vb,i6 0]
 at_:Is .i64 w w.heap.size (.slice A 5 c) [2,3,4,5,6]
 JT:∀b,(Value.slice A 5 c).ownBlock=some b->b<S
 row:w.ownsRow S 23 1 vb bl.length us
 L_:∀b,vb.ownBlock=some b->b<N
 us:∀(j:Nat) u l,us[j]? =some u->bl[j]? =some l->ju S w u l/\l.length=128/\∀b,u.ownBlock=some b->vb.ownBlock≠some b
 sg:S<=g
 gn:g<N
def rv (S N g:Nat) (w:World) (bl:List (List UInt8)):Prop:=∃A c vb us,Dg S N g w bl A c vb us
def Yw (S g:Nat) (w:World) (b:Nat):Prop:=b=g\/(S<=b/\∃cs,ak w b 23 cs)
theorem LB: (prog.info? 23).map (λi=>(i.zero,i.size,i.bytes))=some (some (.slice none 0 0),1,24):=by kernel_rfl
theorem ju.turn {Y:Nat->Prop} {u:Value} {l:List UInt8} (h:ju S w u l) (ht:af Y w w') (hY:∀b,u.ownBlock=some b->¬Y b):ju S w' u l:=⟨af.bs ht h.1 hY,h.2⟩
theorem Dg.bU {A:Option Addr} {c:Nat} {vb:Value} {us:List Value} (h:Dg S N g w bl A c vb us) {Y:Nat->Prop} (ht:af Y w w') (hY:∀b,Y b->b<w.heap.size->b≠g/\(S<=b->∃t cs,ak w b t cs/\t≠23/\t≠5)) (hu:∀(j:Nat) u b,us[j]? =some u->u.ownBlock=some b->¬Y b) (hA:∀b,Y b->S<=b):Dg S N g w' bl A c vb us where
 blk:=ht.blk h.blk λe=>(hY _ e h.blk.lt).1 rfl
 at_:=(af.fe ht h.at_ lh λb e J=>by have:=h.JT b e;have:=hA b J;omega).more ht.size
 JT:=h.JT
 row:=Dv.aJ h.row ht λb e J=>by obtain⟨t,cs,k,R,o⟩:=(hY b J (h.row.lt b e).2).2 (h.row.lt b e).1;exact Dv.aO h.row k (λe=>R e.symm) b e rfl
 L_:=h.L_
 us:=λj u l I U=>let⟨h1,h2,h3⟩:=h.us j u l I U;⟨ju.turn h1 ht λb e=>hu j u b I e,h2,h3⟩
 sg:=h.sg
 gn:=h.gn
theorem rv.below (h:rv S N g w bl) (hb:Bw w w'):rv S N g w' bl:=by obtain⟨A,c,I,us,h⟩:=h;exact⟨A,c,I,us,h.blk.ext hb,(bw.ext h.at_ lh hb).more hb.size,h.JT,aD h.row hb,h.L_,λj u l hu J=>let⟨h1,h2,h3⟩:=h.us j u l hu J;⟨h1.ext hb,h2,h3⟩,h.sg,h.gn⟩
theorem pD {base sz n:Nat} {e:TypeId} {v:Value} {xs:List Value} (h:w.ownsRow base e sz v n xs) {b:Nat} (hb:v.ownBlock=some b):∃cs,ak w b e cs:=by
 rcases h.2 with⟨rfl,_⟩|⟨I,cap,cur,rfl,_,J,_⟩
 ·cases hb
 ·obtain rfl:I=b:=(by injection hb);exact⟨cur.toList,by unfold ak;simpa using J⟩
def ME (S g:Nat) (w:World) (bl:List (List UInt8)) (l:List UInt8) (e:Ending) (w':World):Prop:=e=.returned (.agg #[i6 ((bl.length:Int)+2),.int .u32 ((Crc.sum l:Nat):Int)])/\rv S w'.heap.size g w' (bl++[l])/\af (Yw S g w) w w'
theorem vO (h:rv S N g w bl) (hb:bl.length<5) (hH:a7 w) (hS:S<=w.heap.size) (v:Value) (l:List UInt8) (hv:ju N w v l) (hSN:S<=N) (hl:l.length=128):
 Calls prog 251 #[pt g 0,v,i6 0] w (ME S g w bl l):=by
 obtain⟨A,c,vb,us,h⟩:=h;obtain⟨Ab,cb,rfl⟩:=Dv.aX h.row;obtain⟨Av,cv,ev,_,_,_⟩:=hv.1.open_;rw[hl]at ev;subst ev;have H:=jc h hv hH;have A8:=ja hl;clear h hv hH;go_enter func251,ntmps251;go_upto_region 1 with fail
 obtain⟨r,hr⟩:=ex w.heap.size;obtain⟨w0,e0,k0,b0,s0⟩:=ax w 38 #[i6 0,.int .u32 0] r hr;rw[e0,hr];have J:Below w.heap.size w w0:=hr▸b0;have K0:=jg (H.a.blk.ext J) (aD H.a.row J) ((H.b.1.ext lh J).more J.size) (H.c.ext J) k0 J ((bw.ext H.a.at_ lh J).more J.size:Is .i64 w0 w0.heap.size (.slice A 5 c) [2,3,4,5,6]);have A':=ja (show w.heap.size=r/\w0.heap.size=r+1/\g<r by have:=H.a.blk.lt;omega);obtain⟨Aa,ca,e1,_,_,ha⟩:=(show Is .i64 w0 w0.heap.size (.slice A 5 c) [2,3,4,5,6]from K0.g).open_;injection e1 with e1 _ e2;subst e1 e2;obtain⟨ab,ao,rfl,Ax,A9⟩:=ha bl.length hb;have AI:w0.cell? (ae ab (ao+bl.length))=some (i6 ((bl.length:Int)+2)):=by rw[A9];have:bl.length=0\/bl.length=1\/bl.length=2\/bl.length=3\/bl.length=4:=(by omega);rcases this with e|e|e|e|e<;>simp[e]
 have x0:=K0.a.cell 0;have x1:=K0.a.cell 1;have x2:=K0.a.cell 2;have Ao:=ja (NdW.LV w0 ((bl.length:Int)+2) (.slice Av 128 cv) w0.heap.size l K0.d K0.c lh (by unfold NdW.NY;exact decide_eq_true ⟨by omega,by omega,hl⟩));clear e0 k0 b0 s0 J hr ha A9 hl;have B':¬(5:Int)<=(bl.length:Int):=by omega
 go_wp2_with fail
 refine Ao.a.mono ?_;rintro e w1 ⟨rfl,b1⟩;have K1:=jd (K0.a.ext b1) (aD K0.b b1) (K0.e.ext b1) (K0.f.trans (b1.mono K0.f.size));obtain⟨q,hq⟩:=ex w1.heap.size;generalize AR:Crc.sum l=sm at*;have Aq:=ja AR;clear AR;clear x0 x1 x2 AI;have B0:=b1.size;clear b1;go_upto_region 8 with fail
 obtain⟨w2,e2,k2,b2,s2⟩:=ax w1 38 #[i6 ((bl.length:Int)+2),.int .u32 (sm:Int)] q hq;rw[e2];have A3:Below w1.heap.size w1 w2:=hq▸b2;have K2:=je (K1.a.ext A3) (aD K1.b A3) (K1.c.ext A3) k2 (K1.d.trans (A3.mono K1.d.size));have x1:=K2.a.cell 1;clear e2 k2 b2;go_wp2_with(at_builtin;refine bT ?_)
 obtain⟨w3,e3,k3,b3,s3⟩:=ax w2 23 #[.slice Av 128 cv] (q+1) s2;rw[e3];have R:Below w2.heap.size w2 w3:=s2▸b3;have Ar:S<=w3.heap.size:=by have:=A'.a;omega
 obtain⟨v',w4,A6,A0,Ad,A5⟩:=aE (P:=prog) (ty:=250) underlying250 LB rfl dc (aD K2.b R) (k3.fe 0 1 1 1 sj lh (by rw[aq];decide)) (by intro u hu;simp at hu;subst hu;rfl) (by rw[aq];omega) om Ar;refine aN rfl _ _ _ rfl rfl rfl A6 ?_;obtain⟨A4,c4,rfl⟩:=Dv.aX A0;have T4:af (λb=>(Value.slice Ab bl.length cb).ownBlock=some b) w3 w4:=af.bt Ad λ_ e=>e;have ng: (Value.slice Ab bl.length cb).ownBlock≠some g:=λe=>Dv.aO H.a.row H.a.blk dc g e rfl;have K3:=K2.a.ext R;have U:=jg (T4.blk K3 ng) (T4.blk (K2.c.ext R) (λe=>by have:=H.a.row.lt r e;have:=A'.a;omega)) (T4.blk (K2.d.ext R) (λe=>by have:=H.a.row.lt q e;have:=A'.a;omega)) A0 T4 R A5;have y1:=U.a.cell 1;have f1:=U.a.frozen 1;have B1:=T4.size;clear x1 k3 b3 s3 A0 Ad A6 T4 K3 R e3;go_upto_region 9 with fail
 obtain⟨w5,A7⟩:=ex (w4.setCell (ae g 1) (.slice A4 (bl.length+1) c4));have T5:af (· =g) w4 w5:=A7▸af.setCell w4 g 1 _;have A1:g≠r/\g≠q/\r≠q:=by have:=A'.a;omega
 have kg:=U.a.aC 1 (.slice A4 (bl.length+1) c4);rw[A7]at kg|-;have kq:=T5.blk U.c (λe=>A1.2.1 e.symm);have kr:=T5.blk U.b (λe=>A1.1 e.symm);have As: (Value.slice A4 (bl.length+1) c4).ownBlock≠some g:=λe=>Dv.aO U.d U.a dc g e rfl;have ro:=Dv.aJ U.d T5 λb e h=>As (by rw[e,h]);have K5:=je kg kr kq ro T5;have z0:=kq.cell 0;have z1:=kq.cell 1;have g0:=kr.frozen 0;have g1:=kr.frozen 1;have u0:=kr.cell 0;have u1:=kr.cell 1;clear y1 f1 T5 kg kq kr ro A7;go_wp2;have z:=(K5.b.aC 0 (i6 ((bl.length:Int)+2))).aC 1 (.int .u32 (sm:Int));refine bodyPost_ret (v:=.agg #[i6 ((bl.length:Int)+2),.int .u32 (sm:Int)]) (cZ [i6 ((bl.length:Int)+2),.int .u32 (sm:Int)] _ results251 rfl z.range underlying38 rfl kj) rfl ?_;obtain⟨w6,Ae⟩:=ex ((w5.setCell (ae r 0) (i6 ((bl.length:Int)+2))).setCell (ae r 1) (.int .u32 (sm:Int)));have T6:af (· =r) w5 w6:=Ae▸(af.setCell w5 r 0 _).trans (af.setCell _ r 1 _) λ_ e=>.inl e;rw[Ae];have B2:=A'.a;have TT:af (λb=>b=g\/(Value.slice Ab bl.length cb).ownBlock=some b) w w6:=by refine af.trans (Y:=(· =r)) ?_ T6 λb e=>.inr (by rw[e];omega);refine af.trans (Y:=(· =g)) ?_ K5.e λb e=>.inl (.inl e);refine af.trans ?_ U.e λb e=>.inl (.inr e);exact(af.aj (X:=λb=>b=g\/(Value.slice Ab bl.length cb).ownBlock=some b) K2.e).trans (af.aj U.f) λ_ e=>.inl e
 have Aw:=TT.size;have I:=H.a;have ov:∀b,(Value.slice Av 128 cv).ownBlock=some b->N<=b/\b<w.heap.size:=λb e=>⟨H.b.2 b e,eY H.b.1 A8.a b e⟩;have k6:=T6.blk K5.a A1.1;refine⟨by rw[Aq.a],⟨_,_,.slice A4 (bl.length+1) c4,us++[.slice Av 128 cv],⟨k6,?_,I.JT,?_,?_,?_,I.sg,k6.lt⟩⟩,TT.mono λb e=>e.imp id λe=>⟨(I.row.lt b e).1,pD I.row e⟩⟩
 ·exact(af.fe TT I.at_ lh λb e hy=>by
   have h1:=I.JT b e;rcases hy with rfl|hy
   ·have:=I.sg;omega
   ·have:=(I.row.lt b hy).1;omega).more TT.size
 ·have:=Dv.aJ K5.d T6 λb e h=>(by subst h;exact Dv.aO K5.d K5.b dc b e rfl);rw[List.length_append];exact this
 ·intro b e;exact(Dv.aJ K5.d T6 λb e h=>by subst h;exact Dv.aO K5.d K5.b dc b e rfl).lt b e |>.2
 ·intro j u ll hu A2;have A5:=U.g;have Ah:us.length=bl.length:=(by have:=I.row.1;omega);by_cases hj:j<bl.length
  ·rw[List.getElem?_append_left (by rw[Ah];exact hj)]at hu;rw[List.getElem?_append_left hj]at A2;obtain⟨h1,h2,h3⟩:=I.us j u ll hu A2;refine⟨ju.turn h1 TT ?_,h2,?_⟩
   ·rintro b e (rfl|hy)
    ·obtain⟨x,xs,rfl⟩:∃x xs,ll=x::xs:=by
      cases ll with
      |nil=>cases h2
      |cons x xs=>exact⟨x,xs,rfl⟩
     exact Az h1.1 sj (j:=0) rfl I.blk (Small.of sj sj) e
    ·exact h3 b e hy
   ·intro b e h;rcases A5 with o|o
    ·rw[h]at o;exact h3 b e o.symm
    ·have h5:=eY h1.1 h2 b e;rw[h]at o;injection o with o;have h6:=U.f.size;omega
  ·have Au:j=bl.length:=(by have:=(List.getElem?_eq_some_iff.1 A2).1;simp at this;omega);subst Au;rw[List.getElem?_append_right om,Ah,Nat.sub_self]at hu;rw[List.getElem?_append_right om,Nat.sub_self]at A2;obtain rfl:Value.slice Av 128 cv=u:=(by injection hu);obtain rfl:l=ll:=(by injection A2);refine⟨ju.turn (H.b.le hSN) TT ?_,A8.a,?_⟩
   ·rintro b e (rfl|hy)
    ·have:=(ov b e).1;have:=I.gn;omega
    ·have:=(ov b e).1;have:=I.L_ b hy;omega
   ·intro b e h;rcases A5 with o|o
    ·rw[h]at o;have:=(ov b e).1;have:=I.L_ b o.symm;omega
    ·rw[h]at o;injection o with o;have:=(ov b e).2;have h6:=U.f.size;omega
end
end Co
namespace NdW
open Go.RowKit
def dC (x:Nd.In):List Value:=i6 x.t::i6 x.l::i6 x.v::i6 x.s::i6 x.k::aZ x.ps
def E' (x:Nd.In):Value:=.agg (dC x).toArray
theorem oB (x:Nd.In) (h:x.ps.length=9): (dC x).length=23:=by unfold dC;simp only[List.length_cons,cY,h]
theorem ak.Nb {w:World} {g:Nat} {x:Nd.In} (h:ak w g 41 (dC x)) (hp:x.ps.length=9):t_ w w.heap.size (.slice (some ⟨g,5,none⟩) 9 9) x.ps:=by
 have:=(h.fe 5 9 9 2 (by rw[oB x hp];omega) lh (by simp[maxLen])).more (B':=w.heap.size) h.lt;unfold t_;rw[hp];have e: ((dC x).drop 5).take (9*2)=aZ x.ps:=by unfold dC;simp only[List.drop_succ_cons,List.drop_zero];rw[List.take_of_length_le (by rw[cY,hp];omega)]
 rw[e]at this;exact this
theorem cP (x:Nd.In) (w:World) (hp:x.ps.length=9):
 Calls prog 319 #[E' x] w λe w'=>e=.returned (.bool (Nd.aV x))/\Bw w w':=by
 have I:=ja (show Nd.aV x=(Nd.uA x.t x.l x.v x.s x.k&&x.ps.all Nd.dj)from rfl);unfold E';go_enter func319,ntmps319;go_upto_region 1 with(fail)
 have U:=ak.new w 41 (dC x).toArray;have J:=(Below.refl w.heap.size w).alloc lh (.cells (dC x).toArray 41);change ak _ _ _ (dC x)at U;generalize w.alloc (.cells (dC x).toArray 41)=w0 at*;generalize w.heap.size=gq at U|-;have j:=ak.Nb U hp;obtain⟨t,l,v,s,k,ps⟩:=x;simp only at I j;have c0:=U.cell 0;have c1:=U.cell 1;have c2:=U.cell 2;have c3:=U.cell 3;have c4:=U.cell 4;unfold dC at c0 c1 c2 c3 c4;simp only[List.getElem?_cons_zero,List.getElem?_cons_succ]at c0 c1 c2 c3 c4;clear U;have R:=ja (show Nd.uA t l v s k=decide ((t=1\/t=2)/\0<=l/\l<=200/\0<=v/\v<=2147483647/\0<=s/\s<=1099511627776/\0<=k/\k<=2147483647)from rfl);by_cases t1:t=1\/t=2
 ·rcases t1 with rfl|rfl;all_goals
   by_cases l1:l<0
   ·rw[R.a,decide_eq_false om,Bool.false_and]at I;go_wp2;go_ret;exact⟨by rw[I.a];rfl,J⟩
   by_cases l2:200<l
   ·rw[R.a,decide_eq_false om,Bool.false_and]at I;go_wp2;go_ret;exact⟨by rw[I.a];rfl,J⟩
   by_cases v1:v<0
   ·rw[R.a,decide_eq_false om,Bool.false_and]at I;go_wp2;go_ret;exact⟨by rw[I.a];rfl,J⟩
   by_cases v2:2147483647<v
   ·rw[R.a,decide_eq_false om,Bool.false_and]at I;go_wp2;go_ret;exact⟨by rw[I.a];rfl,J⟩
   by_cases s1:s<0
   ·rw[R.a,decide_eq_false om,Bool.false_and]at I;go_wp2;go_ret;exact⟨by rw[I.a];rfl,J⟩
   by_cases s2:1099511627776<s
   ·rw[R.a,decide_eq_false om,Bool.false_and]at I;go_wp2;go_ret;exact⟨by rw[I.a];rfl,J⟩
   by_cases k1:k<0
   ·rw[R.a,decide_eq_false om,Bool.false_and]at I;go_wp2;go_ret;exact⟨by rw[I.a];rfl,J⟩
   by_cases k2:2147483647<k
   ·rw[R.a,decide_eq_false om,Bool.false_and]at I;go_wp2;go_ret;exact⟨by rw[I.a];rfl,J⟩
   rw[R.a,decide_eq_true om,Bool.true_and]at I;(go_wp2_with fail);refine(mh _ _ _ ps j lh).mono ?_;rintro e w1 ⟨rfl,o⟩;go_wp2;go_ret;exact⟨by rw[I.a];rfl,J.trans (o.mono J.size)⟩
 ·have t2: (t != 1)=true:=(by rw[bne_iff_ne];omega);have t3: (t != 2)=true:=(by rw[bne_iff_ne];omega);rw[R.a,decide_eq_false om,Bool.false_and]at I;clear t1;go_wp2;go_ret;exact⟨by rw[I.a];rfl,J⟩
theorem uD (x:Nd.In) (hp:x.ps.length=9): (prog.info? 41).map (·.size)=some (dC x).length:=by rw[oB x hp];kernel_rfl
def hN (i:Nat) (x:Nd.In):List (Int×Nat):=[(4,1768845156),(1,i),(1,x.t.toNat),(1,x.l.toNat),(4,x.v.toNat),(6,x.s.toNat),(4,x.k.toNat)]
theorem Fl (i:Nat) (x:Nd.In) (hp:x.ps.length=9):Nd.I_.zip (Nd.Jl i x)=hN i x++pN x.ps:=by unfold Nd.I_ Nd.Jl pN;rw[Nd.eK _ _ _ _ rfl,hp];rfl
theorem xX (i:Nat) (iv:Nd.In) (w:World) (hg:Nd.Good iv) (hi:Nd.lQ i=true) (hm:Nd.aV iv=true) (hH:a7 w):
 Calls prog 288 #[i6 (i:Int),E' iv] w (Made (Nd.ND i iv) w):=by
 have hp:=hg.1;have HC:=ja (Nd.LA i iv hi hm hg);have HL:=ja (Nd.zO i iv hg);rw[Fl i iv hp]at HC HL;have HE:=ja (show Nd.ND i iv=Crc.bR (Pk.bO (hN i iv++pN iv.ps)) by rw[<-Fl i iv hp];rfl);have A5:iv.ps.all Nd.dj=true:=by unfold Nd.aV at hm;rw[Bool.and_eq_true]at hm;exact hm.2
 have A6:i<=39/\0<=iv.t/\iv.t<=2/\0<=iv.l/\iv.l<=200/\0<=iv.v/\iv.v<=2147483647/\0<=iv.s/\iv.s<=1099511627776/\0<=iv.k/\iv.k<=2147483647:=by unfold Nd.aV Nd.uA at hm;unfold Nd.lQ at hi;rw[Bool.and_eq_true,decide_eq_true_iff]at hm;rw[decide_eq_true_iff]at hi;omega
 obtain⟨n0,n1,n2,n3,n4,n5,n6,n7,n8,n9,Bg⟩:=A6;obtain⟨tn,ht⟩:=Int.eq_ofNat_of_zero_le n1;obtain⟨ln,hl⟩:=Int.eq_ofNat_of_zero_le n3;obtain⟨vn,hv⟩:=Int.eq_ofNat_of_zero_le n5;obtain⟨sn,hs⟩:=Int.eq_ofNat_of_zero_le n7;obtain⟨kn,A7⟩:=Int.eq_ofNat_of_zero_le n9;have A1:=ja (show bg (hN i iv)=[i6 4,.int .u64 1768845156,i6 1,.int .u64 (i:Int),i6 1,.int .u64 (tn:Int),i6 1,.int .u64 (ln:Int),i6 4,.int .u64 (vn:Int),i6 6,.int .u64 (sn:Int),i6 4,.int .u64 (kn:Int)] by unfold bg hN;rw[ht,hl,hv,hs,A7];rfl);unfold E';go_enter func288,ntmps288;go_wp2_with fail
 have hk:=ak.new w 41 (dC iv).toArray;have hb:=(Below.refl w.heap.size w).alloc lh (.cells (dC iv).toArray 41);change ak _ _ _ (dC iv)at hk;generalize w.alloc (.cells (dC iv).toArray 41)=w0 at*;generalize w.heap.size=gq at hk|-;refine(Cs i _).mono ?_;rintro e w' ⟨rfl,rfl⟩;have A8:=hk.range;have Aq:=uD iv hp;rw[hi];go_wp2_with(refine aw 41 (.tmp 3) rfl rfl gq 0 rfl (dC iv) _ A8 underlying41 rfl Aq ?_)
 refine(cP iv _ hp).mono ?_;rintro e w1 ⟨rfl,A2⟩;rw[hm];have I:=hk.ext A2;have A3:=hb.trans (A2.mono hb.size);clear A8 hk A2 hb hi hm;go_wp2_with fail
 have Ar:Bw w1 w1.drew:=bh.drew;refine wp_region_list 20 [(ez (.agg #[i6 4,.int .u64 ((1768845156:Nat):Int)])),(ez (i6 (i:Int))),(ez (.agg #[i6 1,.int .u64 (i:Int)])),(ez (pt gq 0)),(ez (i6 (tn:Int))),(ez (.agg #[i6 1,.int .u64 (tn:Int)])),(ez (pt gq 1)),(ez (i6 (ln:Int))),(ez (.agg #[i6 1,.int .u64 (ln:Int)])),(ez (pt gq 2)),(ez (i6 (vn:Int))),(ez (.agg #[i6 4,.int .u64 (vn:Int)])),(ez (pt gq 3)),(ez (i6 (sn:Int))),(ez (.agg #[i6 6,.int .u64 (sn:Int)])),(ez (pt gq 4)),(ez (i6 (kn:Int))),(ez (.agg #[i6 4,.int .u64 (kn:Int)])),(λu q=>∃g,u=.slice (some ⟨g,0,none⟩) 7 7/\ak q g 200 (bg (hN i iv))/\w1.heap.size<=g),(λu q=>∃g,u=.slice (some ⟨g,0,none⟩) 7 7/\ak q g 200 (bg (hN i iv))/\w1.heap.size<=g)]
  (λq=>Bw w1 q) kj rfl kj ?_ ?_ ?_ ?_
 ·exact Ar
 ·exact⟨ah _,ah _,ah _,ah _,ah _,ah _,ah _,ah _,ah _,ah _,ah _,ah _,ah _,ah _,ah _,ah _,ah _,ah _,λ_ _ _ ⟨g,h1,h2,h3⟩ hb=>⟨g,h1,h2.ext hb,h3⟩,λ_ _ _ ⟨g,h1,h2,h3⟩ hb=>⟨g,h1,h2.ext hb,h3⟩,trivial⟩
 ·refine⟨?_,rz [] [0],?_,rz [] [3],rx [3,18] [] λx hG=>(by rw[<-ht];exact(cl hG I.lt (I.cell 0)):x.cell? (ae gq 0)=some (i6 (tn:Int))),?_,rz [] [3],rx [6,21] [] λx hG=>(by rw[<-hl];exact(cl hG I.lt (I.cell 1)):x.cell? (ae gq 1)=some (i6 (ln:Int))),?_,rz [] [3],rx [9,24] [] λx hG=>(by rw[<-hv];exact(cl hG I.lt (I.cell 2)):x.cell? (ae gq 2)=some (i6 (vn:Int))),?_,rz [] [3],rx [12,27] [] λx hG=>(by rw[<-hs];exact(cl hG I.lt (I.cell 3)):x.cell? (ae gq 3)=some (i6 (sn:Int))),?_,rz [] [3],rx [15,30] [] λx hG=>(by rw[<-A7];exact(cl hG I.lt (I.cell 4)):x.cell? (ae gq 4)=some (i6 (kn:Int))),?_,?_,?_,trivial⟩
  ·intro a x hG hd hs K hK;clear hd hs;refine pj ?_;go_simp;exact(iA 4 _ 1768845156 om _ om).mono rj
  ·intro a x hG hd hs K hK;have Bt:_=_:=hd 1 16 kj;clear hd hs;refine pj ?_;go_simp;exact(iA 1 _ i om _ om).mono rj
  ·intro a x hG hd hs K hK;have Bu:_=_:=hd 4 19 kj;clear hd hs;refine pj ?_;go_simp;exact(iA 1 _ tn om _ om).mono rj
  ·intro a x hG hd hs K hK;have By:_=_:=hd 7 22 kj;clear hd hs;refine pj ?_;go_simp;exact(iA 1 _ ln om _ om).mono rj
  ·intro a x hG hd hs K hK;have C4:_=_:=hd 10 25 kj;clear hd hs;refine pj ?_;go_simp;exact(iA 4 _ vn om _ om).mono rj
  ·intro a x hG hd hs K hK;have CC:_=_:=hd 13 28 kj;clear hd hs;refine pj ?_;go_simp;exact(iA 6 _ sn om _ om).mono rj
  ·intro a x hG hd hs K hK;have Cd:_=_:=hd 16 31 kj;clear hd hs;refine pj ?_;go_simp;exact(iA 4 _ kn om _ om).mono rj
  ·intro a x hG hd hs K hK;have As:_=_:=hd 0 15 kj;have B5:=aA As;have Au:_=_:=hd 2 17 kj;have B6:=aA Au;have Av:_=_:=hd 5 20 kj;have B7:=aA Av;have Aw:_=_:=hd 8 23 kj;have B8:=aA Aw;have Ax:_=_:=hd 11 26 kj;have B9:=aA Ax;have B':_=_:=hd 14 29 kj;have BB:=aA B';have B0:_=_:=hd 17 32 kj;have BO:=aA B0;clear hd hs;refine pj ?_;go_simp;exact hK _ _ ⟨x.heap.size,rfl,by rw[A1.a];exact ak.new x _ _,hG.size⟩ (hG.alloc hG.size _) (bh.alloc lh _)
  ·intro a x hG hd hs K hK;have A9:=hd 18 33 kj;clear hd hs;refine pj ?_;obtain⟨uu,B1⟩:=ex (a.tmps.getD 33 undef);rw[B1]at A9;go_simp;exact hK _ _ A9 hG bh
 ·intro x hG;(iterate 18 rintro _ rfl);rintro Co BQ D0 AI;simp only[ap];(try simp only[Exit.then]);obtain⟨g,rfl,AR,B2⟩:=AI;have Aa:=I.ext hG;have Ab:=ak.Nb Aa hp;have Ad:=A3.trans (hG.mono A3.size);(go_wp2_with fail);refine(nv _ _ _ iv.ps Ab lh om A5 hg.2).mono ?_;rintro e w3 ⟨u,rfl,o,Ae⟩;have A':=AR.ext Ae;have A4:=Ad.trans (Ae.mono Ad.size);have hr:=ee.aG o;have Ah: (pN iv.ps).length=18:=(by rw[sQ,hp]);obtain⟨A,c,rfl,hc,D3,_⟩:=hr.open_;have R:=A'.own (base:=w.heap.size) (Nat.le_trans A3.size B2) 7 7 2 (by rw[A1.a];rfl) lh (by simp[maxLen]);rw[List.take_of_length_le (by rw[A1.a];simp)]at R;(go_wp2_with(at_builtin;refine bT ?_));obtain⟨ua,wa,J,U,A0,_⟩:=aE (P:=prog) (ty:=193) underlying193 iS rfl dc R hr (pO _) (by rw[aq];omega) om A4.size;have j:=A4.grown A0 A4.size (λg hg=>(R.lt g hg).1);have B3:ee wa wa.heap.size ua (hN i iv++pN iv.ps):=ee.aG (base:=w.heap.size) (e:=200) (by rw[List.length_append,eZ];exact U);have D5: (hN i iv++pN iv.ps).length=25:=(by rw[List.length_append,Ah];rfl);rw[Ah]at J;refine aN (v:=.slice (some ⟨g,0,none⟩) 7 7) (u:=.slice A 18 c) rfl (.tmp 34) (.tmp 37) 193 rfl rfl rfl J ?_;clear U A0 R hr o A' AR Ab Aa J;(go_wp2_with fail);refine(rH _ _ _ (hH.ext j) B3 om HC.a (by rw[HL.a];omega)).mono ?_;rintro e w4 ⟨q,rfl,Ao,B4⟩;rw[<-HE.a]at Ao;go_wp2;go_ret2;exact⟨_,rfl,Ao.le j.size,j.trans (B4.mono j.size)⟩
end NdW
namespace Co
open Go.RowKit
attribute [local go_sem] Oper.semAt_some
section
variable {w w':World} {S N g:Nat} {bl:List (List UInt8)} {own:Nat->Nat} {f:Fi} {i:Nat}
def vA (d n:Nat) (x:X):List Value:=W.cells ⟨0,d,n,0,0,x⟩
theorem xD (ty ar bN tick:Int) (l1 l2:Nat) (V:World):
 (Instr.build 260 #[(1,.agg (X.cells ⟨ty,ar,bN,0,tick⟩).toArray),(2,.map (some l1)),(3,.map (some l2))]).run prog V=.ok (.agg (vA l1 l2 ⟨ty,ar,bN,0,tick⟩).toArray) V:=by
 refine run_build V 260 _ _ ?_;kernel_rfl
theorem wP {α:Type} {l:List α} {k:Nat} {v:α} (h:l[k]? =some v):l.set k v=l:=by
 apply List.ext_getElem?;intro j;by_cases I:k=j
 ·subst I;rw[List.getElem?_set_self (List.getElem?_eq_some_iff.1 h).1,h]
 ·rw[List.getElem?_set_ne I]
theorem xz (ty ar bN tick:Int) (j:Nat) (hj:j<9): (X.cells ⟨ty,ar,bN,0,tick⟩)[5+j*2]? =some (i6 0)/\(X.cells ⟨ty,ar,bN,0,tick⟩)[5+j*2+1]? =some (.int .u32 0):=by
 have:j=0\/j=1\/j=2\/j=3\/j=4\/j=5\/j=6\/j=7\/j=8:=by omega
 rcases this with rfl|rfl|rfl|rfl|rfl|rfl|rfl|rfl|rfl<;>exact⟨rfl,rfl⟩
theorem Fy {u:Value} {l:List UInt8} {t ty:Nat} {cs:List Value} (h:Bs w w.heap.size u l) (hl:l.length=128) (hk:ak w t ty cs) (hc:∀x∈cs,∀z,x≠.int .u8 z):u.ownBlock≠some t:=by
 obtain⟨A,c,rfl,_,_,J⟩:=h.open_;obtain⟨b,o,rfl,_,I⟩:=J 0 om;intro e;obtain rfl:b=t:=by injection e
 rw[Nat.add_zero,hk.cell]at I;exact hc _ (List.mem_of_getElem? I) _ rfl
theorem rv.qS {t ty:Nat} {cs:List Value} (h:rv S N g w bl) (ht:af (· =t) w w') (hk:ak w t ty cs) (hc:∀x∈cs,∀z,x≠.int .u8 z) (h1:ty≠377) (h2:ty≠23) (h3:ty≠5) (hS:S<=t):rv S N g w' bl:=by
 obtain⟨A,c,I,us,h⟩:=h;refine⟨A,c,I,us,h.bU ht (λb e _=>?_) (λj u b hu hb e=>?_) λb e=>by rw[e];exact hS⟩
 ·subst e;exact⟨aR hk h.blk h1,λ_=>⟨ty,cs,hk,h2,h3⟩⟩
 ·subst e;have J:=(List.getElem?_eq_some_iff.1 hu).1;have R:us.length=bl.length:=(by have:=h.row.1;omega);obtain⟨l,U⟩:∃l,bl[j]? =some l:=⟨_,List.getElem?_eq_getElem om⟩;obtain⟨o,q2,q3⟩:=h.us j u l hu U;exact Fy o.1 q2 hk hc hb
def MJ (S g:Nat) (w:World) (bl:List (List UInt8)) (x:X) (e:Ending) (w':World):Prop:=
 ∃p:W,∃l,e=.returned (pt p.b 0)/\ak w' p.b 260 p.cells/\p.at_=(bl.length:Int)+2/\p.sum=((Crc.sum l:Nat):Int)/\p.x=x/\ay w' prog 3 p.data []/\ay w' prog 3 p.nodes []/\
  rv S w'.heap.size g w' (bl++[l])/\w.heap.size<=p.b/\w.heap.size<=p.data/\w.heap.size<=p.nodes/\af (Yw S g w) w w'
theorem DG (hF:kB w own i f) (hwn:f.cU=none) (ty ar bN tick:Int) (hx:f.x=⟨ty,ar,bN,0,tick⟩) (hmy:Nd.aV ⟨ty,ar,bN,0,tick,List.replicate 9 (0,0)⟩=true)
 (h:rv S N g w bl) (hb:bl.length<5) (hH:a7 w) (hR:nW w) (hS:S<=w.heap.size) (hN:N<=w.heap.size) (hSN:S<=N) (hfs:f.g<S) (A1 A2 A3:Option Addr) (c1 c2 c3:Nat):
 Calls prog 249 #[pt f.g 0,.agg #[i6 1,.slice A1 0 c1,.slice A2 0 c2,.slice A3 0 c3],pt g 0] w (MJ S g w bl ⟨ty,ar,bN,0,tick⟩):=by
 have H:=jd hF h hH hR;have HB:=ja (λl1 l2 V=>xD ty ar bN tick l1 l2 V);have B8: (prog.info? 41).map (·.size)=some (X.cells ⟨ty,ar,bN,0,tick⟩).length:=vV;have B9:ak w f.g 155 (i6 f.at_:: .int .u32 f.sum::(X.cells ⟨ty,ar,bN,0,tick⟩++f.maps)):=by rw[<-hx];exact hF.blk
 have A6:=jb B9 B8;clear hF h hH hR B9 B8;go_enter func249,ntmps249;go_upto_region 1 with fail
 obtain⟨q,hq⟩:=ex w.heap.size;obtain⟨w0,e0,k0,b0,s0⟩:=ax w 314 #[i6 1,.slice A1 0 c1,.slice A2 0 c2,.slice A3 0 c3] q hq;rw[e0,hq];have Ah:Below w.heap.size w w0:=hq▸b0;have U:=jd (A6.a.ext Ah) (H.a.cA.ext Ah) k0 Ah;have A7:=ja (show w.heap.size=q/\w0.heap.size=q+1 by omega);clear e0 k0 b0 s0 Ah hq;obtain⟨xs,Ao⟩:=ex (X.cells ⟨ty,ar,bN,0,tick⟩);have A8:=ja Ao;have BB:w0.rangeAt f.g 2 xs:=by have:=U.a.bF 2 xs (by rw[Ao];simp);exact this
 rw[Ao]at A6;have Av:w0.cell? (ae f.g 25)=some (.map (some f.cA)):=(U.a.cell 25).trans rfl;have Ax:f.g<w0.heap.size:=U.a.lt;have FZ:=@run_makeMap prog;clear Ao;have BO:Below w0.heap.size w0 w0.drew:=bh.drew;refine aQ 13 10 [(ez (pt f.g 0)),(ez (pt f.g 0)),(ez (pt f.g 2)),(ez (.agg xs.toArray)),(ez (pt f.g 0)),(ez (pt f.g 0)),(ez (pt f.g 25)),(ez (.map (some f.cA))),(λu q=>∃b,u=.map (some b)/\w0.heap.size<=b/\ay q prog 3 b []),(λu q=>∃b,u=.map (some b)/\w0.heap.size<=b/\ay q prog 3 b [])]
  (λq_=>Below w0.heap.size w0 q_) kj rfl dc kj kj ?_ ?_ ?_ ?_
 ·exact BO
 ·exact⟨ah _,ah _,ah _,ah _,ah _,ah _,ah _,ah _,λ_ _ _ ⟨b,h1,h2,h3⟩ hb=>⟨b,h1,h2,h3.ext hb⟩,λ_ _ _ ⟨b,h1,h2,h3⟩ hb=>⟨b,h1,h2,h3.ext hb⟩,trivial⟩
 ·refine⟨rz [] [0],rz [0,18] [],rz [1,19] [],?_,rz [] [0],rz [4,22] [],rz [5,23] [],rx [6,24] [] λx hG=>cl hG Ax Av,?_,?_,trivial⟩
  ·intro a x hG hd hs K hK;have E6:_=_:=hd 2 20 kj;clear hd hs;refine pj ?_;refine wp_load_mid 41 (.tmp 20) rfl f.g 2 E6 xs _ (λj u hu=>cl hG Ax (BB j u hu)) underlying41 rfl A6.b ?_;exact hK _ _ rfl hG bh
  ·intro a x hG hd hs K hK;have G1:_=_:=hd 7 25 kj;clear hd hs;refine pj ?_;go_simp;refine(iY (U.b.ext hG)).mono ?_;rintro e w' ⟨b,rfl,o,G2,E7,A9⟩;exact hK _ _ ⟨b,rfl,by rw[o.out];exact hG.size,E7⟩ (hG.trans (A9.mono hG.size)) A9
  ·intro a x hG hd hs K hK;clear hd hs;refine pj ?_;go_simp;have A9:=(Below.refl x.heap.size x).alloc lh (.map #[] 0);exact hK _ _ ⟨_,rfl,hG.size,ay.made x prog 3⟩ (hG.trans (A9.mono hG.size)) A9
 ·intro x hG;(iterate 8 rintro _ rfl);rintro v8 E8 v9 E9;simp only[Act.put,List.setIfInBounds_toArray,List.set_cons_zero,List.set_cons_succ,List.take_zero,gC];rw[show List.range' 10 (13-10)=[10,11,12]from rfl,wpOps_cons];obtain⟨dm,rfl,Ld,md⟩:=E8;obtain⟨nm,rfl,Ln,mn⟩:=E9;have hr:=HB.a dm nm x;rw[A8.a]at hr;refine pj ?_;refine wp_build 260 #[(1,.tmp 21),(2,.tmp 26),(3,.tmp 27)] rfl (r:=.agg (vA dm nm ⟨ty,ar,bN,0,tick⟩).toArray) (by rw[List.map_toArray];exact hr) ?_;rw[wpOps_cons];refine pj ?_;go_simp;rw[wpOps_cons];refine pj ?_;go_simp;unfold wpOps;simp only[Exit.then];have B':Below w.heap.size w x:=U.d.trans (hG.mono U.d.size);obtain⟨bb,B0⟩:=ex x.heap.size;obtain⟨J,e1,k1,b1,s1⟩:=ax x 260 (vA dm nm ⟨ty,ar,bN,0,tick⟩).toArray bb B0;rw[e1,B0];have o:Below x.heap.size x J:=B0▸b1;have AI:=ja (show w0.heap.size<=bb/\J.heap.size=bb+1/\q<bb by have:=hG.size;have:=A7.a;omega);have H1:=jh k1 (md.ext o) (mn.ext o) ((U.a.ext hG).ext o) ((U.c.ext hG).ext o) (B'.trans (o.mono B'.size)) Ld Ln;have EC:J.cell? (ae f.g 31)=some (.pointer none):=(H1.d.cell 31).trans (by show some (tV f.cU)=_;rw[hwn];rfl);have y1:J.cell? (ae q 1)=some (.slice A1 0 c1):=H1.e.cell 1;have y2:J.cell? (ae q 2)=some (.slice A2 0 c2):=H1.e.cell 2;have y3:J.cell? (ae q 3)=some (.slice A3 0 c3):=H1.e.cell 3;clear hr hG BO md mn Ld Ln B' e1 k1 b1 s1 o BB Av Ax;go_wp2;(go_loopw [9,49] (λ_ v49 wr=>v49=i6 0/\J=wr) (λ_ _ _=>0));case atStart=>exact⟨rfl,rfl⟩
  case round=>
   obtain⟨rfl,rfl⟩:=hrel;go_wp2;(go_loopw [11,71] (λ_ EK wr=>EK=i6 0/\J=wr) (λ_ _ _=>0));case atStart=>exact⟨rfl,rfl⟩
   case round=>
    obtain⟨rfl,rfl⟩:=hrel;go_wp2;(go_loopw [13,14,15,84] (λ_ _ _ EX wr=>EX=i6 0/\J=wr) (λ_ _ _ _ _=>0));case atStart=>exact⟨rfl,rfl⟩
    case round=>
     obtain⟨rfl,rfl⟩:=hrel;(go_upto_region 22 with fail);have A4:=ja (show xs.length=23/\∀v∈xs,v.oneCell'=true by rw[<-A8.a];exact⟨rfl,by simp[X.cells,Nk,Value.oneCell']⟩);have BQ:J.rangeAt f.g 2 xs:=H1.d.bF 2 xs (by rw[<-A8.a];simp);(go_upto_region 23 with(first|refine aw 41 (.tmp 113) rfl rfl f.g 2 rfl xs _ BQ underlying41 rfl A6.b ?_|refine bE rfl 41 (.tmp 16) (.tmp 114) rfl xs rfl rfl (by rw[A4.a.1];exact Nat.le_of_eq kj) rfl A6.b A4.a.2 ?_));obtain⟨r,AR⟩:=ex J.heap.size;obtain⟨zx,Bg,F'⟩:∃zx:Array Value,#[i6 0,i6 0,i6 0,i6 0,i6 0,i6 0,.int .u32 0,i6 0,.int .u32 0,i6 0,.int .u32 0,i6 0,.int .u32 0,i6 0,.int .u32 0,i6 0,.int .u32 0,i6 0,.int .u32 0,i6 0,.int .u32 0,i6 0,.int .u32 0]=zx/\zx.size=23:=⟨_,rfl,rfl⟩;rw[Bg];have ka:=(ak.new J 41 zx).setCells xs 0 (by rw[A4.a.1,Array.length_toList];omega);rw[ck _ _ (by rw[A4.a.1,Array.length_toList];omega)]at ka;have ba:=aS ((Below.refl J.heap.size J).alloc lh (.cells zx 41)) lh 0 xs;have sa: ((J.alloc (.cells zx 41)).setCells J.heap.size 0 xs).heap.size=J.heap.size+1:=(by rw[fc];simp);generalize(J.alloc (.cells zx 41)).setCells J.heap.size 0 xs=w3 at*;rw[AR]at ka sa|-;have B1:=Lib.hid (⟨AR,sa⟩:_/\_);have R:=jf (H1.a.ext ba) (H1.b.ext ba) (H1.c.ext ba) (H1.e.ext ba) ka (H1.f.trans (ba.mono H1.f.size));clear ka ba sa AR BQ EC y1 y2 y3 Bg F';simp only[Act.put,List.setIfInBounds_toArray,List.set_cons_succ,List.set_cons_zero];go_wp2;(go_loopw [17,115] (λ_ Aa wr=>∃j:Nat,j<=9/\Aa=i6 (j:Int)/\ak wr r 41 xs/\af (· =r) w3 wr) (λ_ Aa _=>9-(intOf Aa).toNat));case atStart=>exact⟨0,by decide,rfl,R.e,af.refl _ _⟩
     case round=>
      obtain⟨j,hj,rfl,kr,ht⟩:=hrel;by_cases Aq:j<9
      ·(go_upto_region 26 with fail);have Ar:bb≠r/\dm≠r/\nm≠r:=(by have:=AI.a;have:=B1.out;exact⟨by omega,aP R.b R.e,aP R.c R.e⟩);have Ab:nW wr:=λk n h=>(by have h0:=H.d k n h;have A5:=World.block_lt_of_cell? _ _ h0;have Bt:=Nat.lt_of_lt_of_le A5 R.f.size;refine(ht.cell (p:=ae 0 k) Bt λe=>?_).trans (cl R.f A5 h0);have:=B1.out;have:=AI.a;have:=A7.a;have e:0=r:=e;have A5:0<w.heap.size:=A5;omega);obtain⟨w4,e4,k4,b4,s4⟩:=ax wr 3 #[i6 (j:Int)] _ rfl;have Ad:nW w4:=λk n h=>(b4.cell (p:=ae 0 k) (World.block_lt_of_cell? _ _ (Ab k n h))).trans (Ab k n h);have HP:=ja (uq Ad bb wr.heap.size j dm nm Aq k4 (vA dm nm ⟨ty,ar,bN,0,tick⟩) ((ht.blk R.a Ar.1).ext b4) rfl rfl ((ht.map R.b Ar.2.1).ext b4) ((ht.map R.c Ar.2.2).ext b4));have hz:=xz ty ar bN tick j Aq;rw[A8.a]at hz;have K4:=jb (kr.ext b4) (ht.trans (af.aj (X:=(· =r)) b4) λ_ e=>.inl e);have HZ:=ja hz;clear Ab Ad k4 b4 s4 kr ht Ar hz;(go_wp2_with fail);refine HP.a.mono ?_;rintro e w5 ⟨rfl,b5⟩;have k5:=K4.a.ext b5;have c0:w5.cell? (ae r (5+j*2))=some (i6 0):=(k5.cell _).trans HZ.a.1;have c1:w5.cell? (ae r (5+j*2+1))=some (.int .u32 0):=(k5.cell _).trans HZ.a.2;have f0:=k5.frozen (5+j*2);have f1:=k5.frozen (5+j*2+1);have K5:=jb k5 (K4.b.trans (af.aj (X:=(· =r)) b5) λ_ e=>.inl e);clear k5 b5;go_wp2;have z:=(K5.a.aC (5+j*2) (i6 0)).aC (5+j*2+1) (.int .u32 0);rw[wP HZ.a.1,wP HZ.a.2]at z;have zt:=(K5.b.trans (af.setCell w5 r (5+j*2) (i6 0)) λ_ e=>.inl e).trans (af.setCell _ r (5+j*2+1) (.int .u32 0)) λ_ e=>.inl e;have Bu:=jb z zt;clear z zt;go_roundw;case rel=>exact⟨j+1,by omega,by go_num,Bu.a,Bu.b⟩
       case measure=>simp[intOf];omega
      ·obtain rfl:j=9:=(by omega);(go_upto_region 28 with fail);have AR:=B1.out;have F0:=AI.a;have F1:=A7.a;have B2:=R.f;have By:=B2.size;have As:Below w.heap.size w wr:=((af.aj (X:=λ_=>False) B2).trans ht λb e=>.inr (by have e:b=r:=e;omega)).bm lh λ_ e=>e.elim;have B3:a7 wr:=H.c.ext As;have C4:rv S N g wr bl:=H.b.below As;have CC:=ht.blk R.d om;have yq:wr.cell? (ae q 0)=some (i6 1):=CC.cell 0;have Cd:=kr.range;have A':Nd.Good ⟨ty,ar,bN,0,tick,List.replicate 9 (0,0)⟩:=⟨rfl,λp hp=>by rw[List.eq_of_mem_replicate hp];decide⟩;have B4:=NdW.xX 1 ⟨ty,ar,bN,0,tick,List.replicate 9 (0,0)⟩ wr A' dc hmy B3;rw[show NdW.E' ⟨ty,ar,bN,0,tick,List.replicate 9 (0,0)⟩=.agg xs.toArray by rw[<-A8.a];rfl]at B4;have Co: (Nd.ND 1 ⟨ty,ar,bN,0,tick,List.replicate 9 (0,0)⟩).length=128:=Crc.bH _ (by rw[Nd.zO 1 _ A'];decide);generalize Nd.ND 1 ⟨ty,ar,bN,0,tick,List.replicate 9 (0,0)⟩=el at*;have HE:=jb B4 Co;have D0:=ht.blk R.a om;have D3:=ht.map R.b (aP R.b R.e);have D5:=ht.map R.c (aP R.c R.e);have HT:=jf B3 C4 As D0 D3 D5;clear B4 Co kr ht B3 C4 A' CC AR F0 F1 B2 By As D0 D3 D5;(go_wp2_with(refine aw 41 (.tmp 16) rfl rfl r 0 rfl xs _ Cd underlying41 rfl A6.b ?_));refine HE.a.mono ?_;rintro e w6 ⟨v6,rfl,Dv,b6⟩;have F2:=HT.c.size;have F3:=ja (vO (HT.b.below b6) hb (HT.a.ext b6) (oa b6.size) v6 el (Dv.le om) hSN HE.b);have A0:=jd (HT.d.ext b6) (HT.e.ext b6) (HT.f.ext b6) (HT.c.trans (b6.mono F2));clear Dv b6 yq Cd;(go_wp2_with fail);refine F3.a.mono ?_;rintro e w7 ⟨rfl,E1,Ae⟩;have E4:¬Yw S g w6 bb:=by
        rintro(e|⟨_,cs,hk⟩)
        ·obtain⟨A,c,vb,us,h0⟩:=H.b;have:=h0.gn;have:=AI.a;have:=A7.a;omega
        ·exact aR A0.a hk dc rfl
       have B5:∀{b:Nat},ay w6 prog 3 b []->w.heap.size<=b->¬Yw S g w6 b:=λ{b} hm hle=>by
        rintro(e|⟨_,cs,hk⟩)
        ·obtain⟨A,c,vb,us,h0⟩:=H.b;have:=h0.gn;omega
        ·exact iP hm hk
       have Au:w.heap.size<=dm/\w.heap.size<=nm/\w.heap.size<=bb:=(by have:=H1.g;have:=H1.h;have:=AI.a;have:=A7.a;omega);have k7:=Ae.blk A0.a E4;have d7:=Ae.map A0.b (B5 A0.b Au.1);have n7:=Ae.map A0.c (B5 A0.c Au.2.1);have I:=jf k7 d7 n7 E1 Ae Au;have c0:w7.cell? (ae bb 0)=some (i6 0):=k7.cell 0;have c1:w7.cell? (ae bb 1)=some (.int .u32 0):=k7.cell 1;have f0:=k7.frozen 0;have f1:=k7.frozen 1;obtain⟨sm,B6⟩:=ex (Crc.sum el);have F4:=ja B6;rw[B6];clear k7 d7 n7 E1 Ae Au E4 B5 B6;go_wp2;go_ret;obtain⟨w8,B7⟩:=ex ((w7.setCell (ae bb 0) (i6 ((bl.length:Int)+2))).setCell (ae bb 1) (.int .u32 (sm:Int)));have kk:=(I.a.aC 0 (i6 ((bl.length:Int)+2))).aC 1 (.int .u32 (sm:Int));have tt:af (· =bb) w7 w8:=B7▸(af.setCell w7 bb 0 _).trans (af.setCell _ bb 1 _) λ_ e=>.inl e;rw[B7]at kk|-;have F5:=tt.map I.b (aP I.b I.a);have F6:=tt.map I.c (aP I.c I.a);have t78:=tt.size;have F8:=I.e.size;have Aw:=A0.d;have F7:w8.heap.size=w7.heap.size:=(by rw[<-B7];simp);have E5:rv S w8.heap.size g w8 (bl++[el]):=(by rw[F7];refine I.d.qS tt I.a ?_ dc dc dc (oa I.f.2.2);simp[vA,W.cells,X.cells,Nk]);refine⟨⟨bb,dm,nm,(bl.length:Int)+2,sm,⟨ty,ar,bN,0,tick⟩⟩,el,rfl,kk,rfl,by rw[F4.a],rfl,F5,F6,E5,I.f.2.2,I.f.1,I.f.2.1,?_⟩;refine((af.aj (X:=Yw S g w) Aw).trans I.e λb e=>?_).trans tt λb e=>.inr (by rw[e];exact I.f.2.2);rcases e with e|⟨e,cs,hk⟩
       ·exact .inl (.inl e)
       ·by_cases Aq:b<w.heap.size
        ·exact .inl (.inr ⟨e,cs,(Aw.block b Aq).symm.trans hk⟩)
        ·exact .inr om
end
end Co
end Go.Proofs.YtdhgejiacehpbaaGreatDoor
