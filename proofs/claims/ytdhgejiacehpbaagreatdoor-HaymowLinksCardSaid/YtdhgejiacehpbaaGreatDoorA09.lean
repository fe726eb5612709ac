import Derived.Test.YtdhgejiacehpbaaGreatDoorA08
import Derived.Shelf.Sort.Plain
import Derived.Shelf.Slices.Turned
import Derived.Shelf.Slices.Reverse
import Derived.Ground.Names2Prog
import Derived.Shelf.Slices.Clone
import Derived.Shelf.Slices.In.SortNone
import Derived.Test.YtdhgejiacehpbaaGreatDoorProg
import Derived.Sort.OwnSortedInts
import Derived.Lib.SlKeysI
import Derived.Deep.LoopGhost
import Derived.WalkMore
set_option maxRecDepth 100000
set_option maxHeartbeats 16000000
set_option linter.all false
namespace Go.Proofs.YtdhgejiacehpbaaGreatDoor
open Go.Proofs.Tryz
namespace Co
open Go.RowKit
section
variable {w:World}
def part (n:Nat):List Nat:=if n%128=0 then []else [(n-1)/128]
def JO (w:World) (n:Nat) (e:Ending) (w':World):Prop:=∃v,e=.returned v/\Is .i64 w' w'.heap.size v ((part n).map Int.ofNat)/\Bw w w'
theorem yw:Calls prog 72 #[i6 0,i6 0] w (JO w 0):=by go_enter func72,ntmps72;go_wp2;go_ret;exact⟨_,rfl,bw.fp _ _ _,Below.refl _ _⟩
def kA (n k:Nat):List Nat:=if k=0 then []else if k=1 then(if n<128 then [0]else [])else part n
theorem uK (n:Nat) (hn:0<n) (hn2:n<=100000):Calls prog 72 #[i6 0,i6 (n:Int)] w (JO w n):=by
 obtain⟨last,A3⟩:∃last:Nat,((n:Int)-1)/128=(last:Int):=⟨(n-1)/128,by omega⟩;have h0: ((n:Int)==0)=false:=by rw[beq_eq_false_iff_ne];omega
 go_enter func72,ntmps72;go_wp2;rw[A3];obtain⟨W0,hW⟩:=ex (w.alloc (.cells #[i6 0,i6 (last:Int)] 3));have kb:ak W0 w.heap.size 3 [i6 0,i6 (last:Int)]:=by rw[<-hW];exact ak.new w _ _
 have b0:Bw w W0:=by rw[<-hW];exact bh.alloc lh _
 rw[hW];clear hW;obtain⟨g,hg⟩:=ex w.heap.size;rw[hg]at kb|-;have HG:=ja hg;have KB:=ja kb;have B0:=ja b0;clear hg kb b0;go_loopw [7,25] (λu7 u25 wr=>∃k:Nat,k<=2/\u25=i6 k/\wr.ownsRow (g+1) 3 1 u7 (kA n k).length (((kA n k).map Int.ofNat).map (Value.int .i64))/\Below (g+1) W0 wr) (λ_ u25 _=>2-(intOf u25).toNat)
 case atStart=>exact⟨0,Nat.zero_le _,rfl,World.ownsRow_nil _ _ _ _,Below.refl _ _⟩
 case round=>
  obtain⟨k,hk,rfl,I,U⟩:=hrel;have kr:=KB.a.below U (Nat.lt_succ_self g);have x0:wr.cell? (ae g 0)=some (i6 0):=kr.cell 0;have x1:wr.cell? (ae g 1)=some (i6 (last:Int)):=kr.cell 1;have A1:=kr.lt;by_cases A7:k=2
  ·subst A7;have HO:=ja I;have HB:=ja U;clear I U kr;go_wp2;go_ret;have hr:=bw.aG HO.a;have A8:Bw w wr:=B0.a.trans (HB.a.mono (oa HG.a));refine⟨_,rfl,?_,A8⟩;unfold Is;rw[List.length_map];exact hr
  ·by_cases A9:k=0
   ·subst A9;have J:wr.ownsRow (g+1) 3 1 u7 0 []:=I;obtain⟨A,c,rfl⟩:∃A c,u7=.slice A 0 c:=by
     rcases J.2 with⟨h1,_⟩|⟨g',A6,cur,h1,_⟩
     ·exact⟨_,_,h1⟩
     ·exact⟨_,_,h1⟩
    have HO:=ja J;have HB:=ja U;clear I J U kr;by_cases A':n<128
    ·have A2: (n:Int)<128:=(by omega);(go_wp2_with(at_builtin;refine bT ?_));refine aH rfl _ _ rfl rfl rfl sj underlying50 Sq.cI rfl dc HO.a rfl (by simp[Value.oneCell']) (by rw[aq];omega) om A1 ?_;intro v8 w8 R o;have A4:=ja R;have A5:=ja (HB.a.grown o A1 (λj e=>(HO.a.lt j e).1));clear R o;go_wp2;go_roundw;case rel=>exact⟨1,by omega,rfl,by show World.ownsRow _ (g+1) 3 1 _ (kA n 1).length _;unfold kA;rw[if_neg dc,if_pos rfl,if_pos A'];exact A4.a,A5.a⟩
     case measure=>simp[intOf]
    ·have A2:¬(n:Int)<128:=(by omega);go_wp2;go_roundw;case rel=>exact⟨1,by omega,rfl,by show wr.ownsRow (g+1) 3 1 _ (kA n 1).length _;unfold kA;rw[if_neg dc,if_pos rfl,if_neg A'];exact HO.a,HB.a⟩
     case measure=>simp[intOf]
   ·obtain rfl:k=1:=(by omega);by_cases A':n<128
    ·have AI:last=0:=(by omega);subst AI;have e1:kA n 1=[0]:=(by unfold kA;rw[if_neg dc,if_pos rfl,if_pos A']);have e2:kA n 2=[0]:=(by unfold kA part;rw[if_neg dc,if_neg dc,if_neg om];congr 1;omega);rw[e1]at I;have hr:=bw.aG I;obtain⟨A,c,rfl,hc,hm,_,A0⟩:=hr;obtain⟨bi,Aa,rfl,Ab,hx⟩:=A0 dc;have y0:=hx 0 (i6 0) rfl;rw[Nat.add_zero]at y0;simp only[List.length_cons,List.length_nil]at hc I|-;have HO:=ja I;have HB:=ja U;have A2: (n:Int)<128:=(by omega);clear I U kr A0 hx;go_wp2;go_roundw;case rel=>exact⟨2,by omega,rfl,by rw[e2];exact HO.a,HB.a⟩
     case measure=>simp[intOf]
    ·have e1:kA n 1=[]:=(by unfold kA;rw[if_neg dc,if_pos rfl,if_neg A']);rw[e1]at I;have J:wr.ownsRow (g+1) 3 1 u7 0 []:=I;obtain⟨A,c,rfl⟩:∃A c,u7=.slice A 0 c:=by
      rcases J.2 with⟨h1,_⟩|⟨g',A6,cur,h1,_⟩
      ·exact⟨_,_,h1⟩
      ·exact⟨_,_,h1⟩
     have HO:=ja J;have HB:=ja U;clear I J U kr;by_cases hm:n%128=0
     ·have e2:kA n 2=[]:=(by unfold kA part;rw[if_neg dc,if_neg dc,if_pos hm]);have A2:¬(n:Int)<((last:Int)+1)*128:=(by omega);have AR:¬(last:Int)*128<0:=(by omega);go_wp2;go_roundw;case rel=>exact⟨2,by omega,rfl,by rw[e2];exact HO.a,HB.a⟩
      case measure=>simp[intOf]
     ·have e2:kA n 2=[last]:=(by unfold kA part;rw[if_neg dc,if_neg dc,if_neg hm];congr 1;omega);have A2: (n:Int)<((last:Int)+1)*128:=(by omega);have AR:¬(last:Int)*128<0:=(by omega);(go_wp2_with(at_builtin;refine bT ?_));refine aH rfl _ _ rfl rfl rfl sj underlying50 Sq.cI rfl dc HO.a rfl (by simp[Value.oneCell']) (by rw[aq];omega) om A1 ?_;intro v8 w8 R o;have A4:=ja R;have A5:=ja (HB.a.grown o A1 (λj e=>(HO.a.lt j e).1));clear R o;go_wp2;go_roundw;case rel=>exact⟨2,by omega,rfl,by rw[e2];exact A4.a,A5.a⟩
      case measure=>simp[intOf]
end
end Co
namespace Co
open Go.RowKit
open Sq (Pc fj nl p8 wE)
section
variable {w w':World} {c:C} {fs:List Fi}
theorem zK:∀(qs:List Pc) (vs:List Value) (k:Nat),(∀j (h:j<qs.length),qs[j].n=k+j)->k<=vs.length->vs.length<=k+qs.length->mb vs qs=vs.take k++qs.map (·.v)
 |[],vs,k,_,h1,h2=>by have:vs.length=k:=(by simp at h2;omega);unfold mb;simp[<-this]
 |q::r,vs,k,hn,h1,h2=>by
  have e:mb vs (q::r)=mb (gQ vs q.n q.v) r:=rfl;have J:q.n=k:=(by have:=hn 0 sj;simpa using this);rw[e,J];have R: (gQ vs k q.v).take (k+1)=vs.take k++[q.v]:=by
   unfold gQ;split
   ·rename_i h;rw[List.take_set,List.take_succ_eq_append_getElem h];rw[List.set_append_right _ _ (by simp;omega)];simp[Nat.min_eq_left h1]
   ·have:vs.length=k:=(by omega);rw[List.take_of_length_le (by simp;omega),<-this,List.take_length]
  have hlen:k+1<=(gQ vs k q.v).length:=(by unfold gQ;split<;>simp<;>omega);have I: (gQ vs k q.v).length<=k+1+r.length:=(by simp only[List.length_cons]at h2;unfold gQ;split<;>simp<;>omega);rw[zK r (gQ vs k q.v) (k+1) (λj U=>by have:=hn (j+1) (by simp;omega);simp at this;omega) hlen I,R];simp
theorem Dj:∀(qs:List Pc) (vs:List Value) (k:Nat),(∀j (h:j<qs.length),qs[j].n=k+j)->k<=vs.length->k+qs.length<=(mb vs qs).length
 |[],vs,k,_,h1=>h1
 |q::r,vs,k,hn,h1=>by have e:mb vs (q::r)=mb (gQ vs q.n q.v) r:=rfl;have I:q.n=k:=(by have:=hn 0 sj;simpa using this);rw[e,I];have:=Dj r (gQ vs k q.v) (k+1) (λj J=>by have:=hn (j+1) (by simp;omega);simp at this;omega) (by unfold gQ;split<;>simp<;>omega);rw[List.length_cons];omega
theorem KI (ps:List Pc) (d:List UInt8) (k:Nat) (h1:ps.length<=1) (h2:∀p∈ps,p.n<k/\p.l=Sp.blk d p.n) (hk:k<=Sp.nb d.length) (hd:d.length<=463488):Sq.Vd d.length ps:=by
 match ps,h1,h2 with
 |[],_,_=>exact Sq.zj _ hd
 |[p],_,h2=>obtain⟨J,a2⟩:=h2 p (List.mem_singleton.2 rfl);exact Sq.Ee _ p hd om (λj I=>by rw[a2];exact Sq.mf _ _ _ I)
theorem Dr (f:Fi) (n:Nat) (ps:List Pc) (h:ps.map nl=il f (part n)):ps.length<=1/\∀p∈ps,p.n=(n-1)/128/\p.n<f.vs.length/\p.l=Sp.blk f.d p.n:=by
 have J: (il f (part n)).length<=1:=by unfold il part;rw[List.length_map];refine Nat.le_trans (List.length_filter_le _ _) ?_;split<;>simp
 refine⟨by rw[<-h,List.length_map]at J;exact J,λp hp=>?_⟩;have hm:nl p∈il f (part n):=by rw[<-h];exact List.mem_map_of_mem hp
 unfold il at hm;obtain⟨a,ha,e⟩:=List.mem_map.1 hm;obtain⟨I,R⟩:=List.mem_filter.1 ha;injection e with U j;subst U;unfold part at I;split at I
 ·cases I
 ·exact⟨List.mem_singleton.1 I,of_decide_eq_true R,j.symm⟩
theorem xa (h:bD w c fs) (i:Nat) (f:Fi) (hf:fs[i]? =some f) (hi:i<39) (ino:Int) (hino:ino=i+1) (hvl:f.vs.length<=700) (vb:Value) (b:List UInt8) (hb:Bs w w.heap.size vb b) (hb0:0<b.length) (hb1:b.length<=80000) (hd:f.d.length<=b.length):
 Calls prog 29 #[pt c.g 0,i6 ino,i6 0,vb] w (JA w c fs i f ((Sp.F.mk f.d f.vs.length).write b)):=by
 obtain⟨Ab,cb,rfl,E6,E7,_⟩:=hb.open_;have H:=ja h;have HF:=ja hf;have HI:=ja hino;have HB:=ja hb;have n1:¬(463488:Int)<(b.length:Int):=by omega
 have n2:¬(463488:Int)-0<(b.length:Int):=by omega
 clear h hf hino hb;go_enter func29,ntmps29;go_wp2_with fail
 refine(i' H.a i f HF.a om _ HI.a).mono ?_;rintro e w1 ⟨rfl,b1⟩;have H1:=ja (H.a.below b1);have B1:=ja b1;have BQ:b.length<=100000:=by omega
 clear b1;go_wp2_with fail
 refine(uK (w:=w1) b.length hb0 BQ).mono ?_;rintro e w2 ⟨v2,rfl,Ao,b2⟩;have Bg:=ja Ao;have H2:=ja (H1.a.below b2);have B2:=ja (B1.a.trans (b2.mono B1.a.size));clear Ao b2;go_wp2_with fail
 have Aq:=ep H2.a i f HF.a v2 (part b.length) Bg.a (by intro n hn;unfold part at hn;split at hn;cases hn;rw[List.mem_singleton.1 hn];omega) (by unfold part;split<;>simp);refine Aq.mono ?_;rintro e w3 ⟨u,ps,rfl,hp,Ar,b3⟩;clear Aq;have As:ps.length<=1/\∀p∈ps,p.n=(b.length-1)/128/\p.n<f.vs.length/\p.l=Sp.blk f.d p.n:=Dr f b.length ps Ar;obtain⟨A,cc,rfl,_,_,_⟩:=hp.open_;have U:=ja As;have HP:=ja hp;have Bt:=ja (H2.a.below b3);have AI:=ja (B2.a.trans (b3.mono B2.a.size));clear hp Ar b3 As;go_upto_region 9 with fail
 obtain⟨W4,A3⟩:=ex (w3.alloc (.cells #[i6 (f.d.length:Int),.slice A ps.length cc] 158));have dS:ak W4 w3.heap.size 158 [i6 (f.d.length:Int),.slice A ps.length cc]:=by rw[<-A3];exact ak.new w3 _ _
 have b4:Bw w3 W4:=by rw[<-A3];exact bh.alloc lh _
 rw[A3];obtain⟨g10,A1⟩:=ex w3.heap.size;rw[A1]at dS|-;have y0:W4.cell? (ae g10 0)=some (i6 (f.d.length:Int)):=dS.cell 0;have y1:W4.cell? (ae g10 1)=some (.slice A ps.length cc):=dS.cell 1;have Bu:=ja (HP.a.up b4);have By:=ja (Bt.a.below b4);have A2:=ja (AI.a.trans (b4.mono AI.a.size));have A8:=ja (show w.heap.size<=g10 by rw[<-A1];exact AI.a.size);have Au:=ja dS;clear A3 A1 dS b4;have C4:=ja ((HB.a.ext lh A2.a).more A2.a.size);go_wp2_with fail
 have Av:=(H.a.fi i f HF.a).ok;have Aw:Sq.Vd f.d.length ps:=KI ps f.d f.vs.length U.a.1 (λp hp=>⟨(U.a.2 p hp).2.1,(U.a.2 p hp).2.2⟩) Av.1 om;refine(Sq.yZ (.slice A ps.length cc) f.d.length ps (.slice Ab b.length cb) b W4 Bu.a Aw U.a.1 (λp hp j hj=>by rw[(U.a.2 p hp).2.2];exact Sq.mf _ _ _ om) (λp hp=>by rw[(U.a.2 p hp).1];unfold Sp.nb;omega) C4.a hb0 om hd).mono ?_;rintro e w5 ⟨u5,qs,v5,rfl,AR,Ax,o,A',b5,J,R⟩;clear Aw Av;obtain⟨A5,c5,rfl,_,_,_⟩:=o.open_;have A4:=A';obtain⟨A6,c6,rfl,_⟩:=A4;rw[Sq.se]at*;have B':qs.length=Sp.nb b.length:=by have:=congrArg List.length AR;simpa [p8]using this
 have k5:=Au.a.ext b5;have z0:=k5.cell 0;have z1:=k5.cell 1;have zf:=k5.frozen;have K5:=ja k5;have CC:=ja AR;have B0:=ja Ax;have Cd:=ja o;have Co:=ja A';have D0:=ja J;have D3:=ja R;have A0:=ja B';have D5:=ja (By.a.below b5);have Dv:=ja (A2.a.trans (b5.mono A2.a.size));clear AR Ax o A' b5 J R k5 y0 y1 B';go_upto_region 12 with fail
 obtain⟨W6,Aa⟩:=ex ((w5.setCell (ae g10 0) (i6 (b.length:Int))).setCell (ae g10 1) (.slice A5 qs.length c5));have o:=Cd.a;have A':=Co.a;have J:=D0.a;have R:=D3.a;have E1:=D5.a;have B3:=Dv.a;have k6:=(K5.a.aC 0 (i6 (b.length:Int))).aC 1 (.slice A5 qs.length c5);have T6:=(af.setCell w5 g10 0 (i6 (b.length:Int))).trans (af.setCell _ g10 1 (.slice A5 qs.length c5)) (λ_ h=>.inl h);have Ad:Bw w W6:=by rw[<-Aa];exact(B3.setCell (p:=ae g10 0) A8.a _).setCell (p:=ae g10 1) A8.a _
 rw[Aa]at k6 T6|-;have y0:W6.cell? (ae g10 0)=some (i6 (b.length:Int)):=k6.cell 0;have y1:W6.cell? (ae g10 1)=some (.slice A5 qs.length c5):=k6.cell 1;have E8:=Au.a.lt;have B4:=(fj.turn o lh T6 (λb hb e=>by have:=(J b hb).1;omega) (λq' hq b hb e=>by obtain⟨g9,e9,k9,l9,_⟩:=B0.a q' hq;rw[e9]at hb;have e2:g9=_:=Option.some.inj hb;omega)).more T6.size;have A4:Is .i64 W6 W6.heap.size (.slice A6 (Sp.nb b.length) c6) (wE (Sp.nb b.length)):=bw.more (T6.fe A' lh (λb hb e=>by have:=(R b hb).1;omega)) T6.size;have Ae:=A2.a.size;have B5:∀b,(Value.slice A5 qs.length c5).ownBlock=some b->c.own b=0/\b<W6.heap.size:=λb hb=>⟨H.a.hi b (Nat.le_trans Ae (J b hb).1),Nat.lt_of_lt_of_le (J b hb).2 T6.size⟩;have B6:∀b9,(Value.slice A6 (Sp.nb b.length) c6).ownBlock=some b9->c.own b9=0/\b9<W6.heap.size:=λb hb=>⟨H.a.hi b (Nat.le_trans Ae (R b hb).1),Nat.lt_of_lt_of_le (R b hb).2 T6.size⟩;have B7:∀q'∈qs,∀b,q'.v.ownBlock=some b->c.own b=0/\b<W6.heap.size:=λq' hq b hb=>by obtain⟨g9,e9,k9,l9,_⟩:=B0.a q' hq;rw[e9]at hb;have e2:g9=b:=Option.some.inj hb;rw[<-e2];exact⟨H.a.hi g9 (Nat.le_trans Ae l9),Nat.lt_of_lt_of_le k9.lt T6.size⟩
 have I:∀k (hk:k<qs.length),qs[k].n=k/\qs[k].l=Sp.blk b k:=λk hk=>Sq.p6 qs b _ CC.a k hk;have B8:=(H.a.fi i f HF.a).ok;have E5:f.vs.length<=qs.length:=by have h1:=B8.1;rw[A0.a];unfold Sp.nb at*;simp only at h1;omega
 have B9:mb f.vs qs=qs.map (·.v):=by rw[zK qs f.vs 0 (λj hj=>by rw[(I j hj).1];omega) (Nat.zero_le _) om];rfl
 have Ah:dJ qs=wE (Sp.nb b.length):=by refine List.ext_getElem (by rw[jG,Sq.se,A0.a]) λk h1 h2=>?_;have hk:k<qs.length:=(by rw[jG]at h1;exact h1);simp only[dJ,wE,List.getElem_map,List.getElem_range];rw[(I k hk).1];rfl
 have BB:qs.length<=1000:=by rw[A0.a];unfold Sp.nb;omega
 have A9:Calls prog 74 #[pt c.g 0,i6 ino,.agg #[i6 (b.length:Int),.slice A5 qs.length c5],.slice A6 (Sp.nb b.length) c6] W6 (Ni W6 c fs i f b (qs.map (·.v))):=
  iw (H.a.below Ad) i f HF.a hi ino HI.a (.slice A5 qs.length c5) (.slice A6 (Sp.nb b.length) c6) qs b.length B4 (by rw[Ah];exact A4) (List.pairwise_iff_getElem.2 λi j h1 h2 h3=>by rw[(I i h1).1,(I j h2).1];exact h3) om BB (λk hk=>by
   have h5:=Dj (qs.take k) f.vs 0 (λj hj=>by rw[List.getElem_take,(I j _).1];omega) (Nat.zero_le _);rw[List.length_take]at h5;rw[(I k hk).1];omega) B5 B6 B7 om b rfl (qs.map (·.v)) (by rw[if_neg om,B9]) (λn v hv=>by
   rw[List.getElem?_map]at hv;obtain⟨q,hq,rfl⟩:=Option.map_eq_some_iff.1 hv;obtain⟨hn,rfl⟩:=List.getElem?_eq_some_iff.1 hq;exact .inr ⟨_,List.getElem_mem hn,rfl,(I n hn).2⟩) ⟨by rw[List.length_map,A0.a];exact Nat.le_refl _,λj hj=>by
   rw[List.length_map,A0.a]at hj;have E9:128*((b.length+127)/128)<=j:=hj;show b.getD j 0=0;rw[List.getD_eq_getElem?_getD,List.getElem?_eq_none om];rfl⟩
 have BO:=ja A9;have E4:=ja Ad;clear o A' J R E1 B3 k6 T6 Aa Ad B4 A4 B5 B6 B7 A9 z0 z1 zf;go_wp2_with fail
 refine BO.a.mono ?_;rintro e w7 ⟨c',f',rfl,lk,ho,A7,S7⟩;have HZ:=Lib.hid (⟨lk,ho,A7,S7⟩:_/\_/\_/\_);clear lk ho A7 S7;go_wp2;go_ret;obtain⟨lk,ho,A7,S7⟩:=HZ.out;refine⟨c',f',rfl,?_,?_,ho,A7,(Step.below E4.a c).trans S7⟩
 ·rw[lk.vs];unfold Sp.F.write;rw[if_neg (by intro e;rw[e]at hb0;cases hb0)];show(qs.map (·.v)).length=_;rw[List.length_map,A0.a]
 ·unfold Sp.F.write;rw[if_neg (by intro e;rw[e]at hb0;cases hb0)];exact⟨lk.at_,lk.sum,lk.ty,lk.ar,lk.bN,lk.tick,lk.cU,rfl,lk.d⟩
end
end Co
namespace Co
open Go.RowKit
open Sq (fj)
section
variable {w w':World} {c:C} {fs:List Fi}
theorem Ch (h:bD w c fs) (i:Nat) (f:Fi) (hf:fs[i]? =some f) (hi:i<39) (ino:Int) (hino:ino=i+1) (hvl:f.vs.length<=700) (hd:f.d.length<=100000) (vb:Value) (hb:Bs w w.heap.size vb []):
 Calls prog 29 #[pt c.g 0,i6 ino,i6 0,vb] w (JA w c fs i f ⟨f.d,f.vs.length⟩):=by
 obtain⟨Ab,cb,rfl,B7,B8,_⟩:=hb.open_;have H:=ja h;have HF:=ja hf;have HI:=ja hino;have HB:=ja hb;simp only[List.length_nil]at*;clear h hf hino hb;go_enter func29,ntmps29;go_wp2_with fail
 refine(i' H.a i f HF.a om _ HI.a).mono ?_;rintro e w1 ⟨rfl,b1⟩;have H1:=ja (H.a.below b1);have B1:=ja b1;clear b1;go_wp2_with fail
 refine(yw (w:=w1)).mono ?_;rintro e w2 ⟨v2,rfl,AI,b2⟩;have Av:=ja AI;have H2:=ja (H1.a.below b2);have B2:=ja (B1.a.trans (b2.mono B1.a.size));clear AI b2;go_wp2_with fail
 have AR:=ep H2.a i f HF.a v2 (part 0) Av.a (by intro n hn;cases hn) (by unfold part;split<;>simp);refine AR.mono ?_;rintro e w3 ⟨u,ps,rfl,hp,Aa,b3⟩;clear AR;obtain rfl:ps=[]:=by have:=congrArg List.length Aa;simpa [il,part]using this
 obtain⟨A,cc,rfl,_,_,_⟩:=hp.open_;have HP:=ja hp;have Aw:=ja (H2.a.below b3);have A7:=ja (B2.a.trans (b3.mono B2.a.size));clear hp Aa b3;go_upto_region 9 with fail
 obtain⟨W4,A0⟩:=ex (w3.alloc (.cells #[i6 (f.d.length:Int),.slice A 0 cc] 158));have dS:ak W4 w3.heap.size 158 [i6 (f.d.length:Int),.slice A 0 cc]:=by rw[<-A0];exact ak.new w3 _ _
 have b4:Bw w3 W4:=by rw[<-A0];exact bh.alloc lh _
 try simp only[List.length_nil]at*
 rw[A0];obtain⟨g10,o⟩:=ex w3.heap.size;rw[o]at dS|-;have y0:W4.cell? (ae g10 0)=some (i6 (f.d.length:Int)):=dS.cell 0;have y1:W4.cell? (ae g10 1)=some (.slice A 0 cc):=dS.cell 1;have Ax:=ja (HP.a.up b4);have B':=ja (Aw.a.below b4);have A':=ja (A7.a.trans (b4.mono A7.a.size));have A3:=ja (show w.heap.size<=g10 by rw[<-o];exact A7.a.size);have Ad:=ja dS;clear A0 o dS b4;have B0:=ja ((HB.a.ext lh A'.a).more A'.a.size);go_wp2_with fail
 refine(Sq.xJ (.slice A 0 cc) f.d.length [] (.slice Ab 0 cb) W4 Ax.a (Sq.zj _ om) sj B0.a).mono ?_;rintro e w5 ⟨u5,qs,v5,rfl,Ae,B3,R,U,b5,I,J⟩;obtain rfl:qs=[]:=by have:=congrArg List.length Ae;simpa using this
 obtain⟨A5,c5,rfl,_,_,_⟩:=R.open_;have A1:=U;obtain⟨A6,c6,rfl,_⟩:=A1;simp only[List.map_nil,List.length_nil]at*;have k5:=Ad.a.ext b5;have z0:=k5.cell 0;have z1:=k5.cell 1;have zf:=k5.frozen;have K5:=ja k5;have B4:=Lib.hid (⟨R,U,I,J,B'.a.below b5,A'.a.trans (b5.mono A'.a.size)⟩:fj w5 w5.heap.size (.slice A5 0 c5) []/\Is .i64 w5 w5.heap.size (.slice A6 0 c6) []/\(∀b,(Value.slice A5 0 c5).ownBlock=some b->W4.heap.size<=b/\b<w5.heap.size)/\(∀b,(Value.slice A6 0 c6).ownBlock=some b->W4.heap.size<=b/\b<w5.heap.size)/\bD w5 c fs/\Bw w w5);clear Ae B3 R U b5 I J k5 y0 y1;go_upto_region 12 with fail
 obtain⟨W6,A8⟩:=ex ((w5.setCell (ae g10 0) (i6 (f.d.length:Int))).setCell (ae g10 1) (.slice A5 0 c5));obtain⟨R,U,I,J,B5,Ah⟩:=B4.out;have k6:=(K5.a.aC 0 (i6 (f.d.length:Int))).aC 1 (.slice A5 0 c5);have T6:=(af.setCell w5 g10 0 (i6 (f.d.length:Int))).trans (af.setCell _ g10 1 (.slice A5 0 c5)) (λ_ h=>.inl h);have A9:Bw w W6:=by rw[<-A8];exact(Ah.setCell (p:=ae g10 0) A3.a _).setCell (p:=ae g10 1) A3.a _
 rw[A8]at k6 T6|-;have y0:W6.cell? (ae g10 0)=some (i6 (f.d.length:Int)):=k6.cell 0;have y1:W6.cell? (ae g10 1)=some (.slice A5 0 c5):=k6.cell 1;have B9:=Ad.a.lt;have Ao:=(fj.turn R lh T6 (λb hb e=>by have:=(I b hb).1;omega) (λq hq=>by cases hq)).more T6.size;have A1:Is .i64 W6 W6.heap.size (.slice A6 0 c6) []:=bw.more (T6.fe U lh (λb hb e=>by have:=(J b hb).1;omega)) T6.size;have Aq:=A'.a.size;have Ar:∀b,(Value.slice A5 0 c5).ownBlock=some b->c.own b=0/\b<W6.heap.size:=λb hb=>⟨H.a.hi b (Nat.le_trans Aq (I b hb).1),Nat.lt_of_lt_of_le (I b hb).2 T6.size⟩;have As:∀b,(Value.slice A6 0 c6).ownBlock=some b->c.own b=0/\b<W6.heap.size:=λb hb=>⟨H.a.hi b (Nat.le_trans Aq (J b hb).1),Nat.lt_of_lt_of_le (J b hb).2 T6.size⟩;have A4:=iw (H.a.below A9) i f HF.a hi ino HI.a (.slice A5 0 c5) (.slice A6 0 c6) [] f.d.length Ao A1 List.Pairwise.nil om sj (λk hk=>by cases hk) Ar As (λq hq=>by cases hq) om f.d rfl f.vs (by rw[if_neg (Nat.lt_irrefl _)];rfl) (λn v hv=>.inl ⟨hv,rfl⟩) (H.a.fi i f HF.a).ok;have Au:=ja A4;have B6:=ja A9;clear R U I J B5 Ah k6 T6 A8 A9 Ao A1 Ar As A4 z0 z1 zf;go_wp2_with fail
 refine Au.a.mono ?_;rintro e w7 ⟨c',f',rfl,j,ho,A2,S7⟩;have HZ:=Lib.hid (⟨j,ho,A2,S7⟩:_/\_/\_/\_);clear j ho A2 S7;go_wp2;go_ret;obtain⟨j,ho,A2,S7⟩:=HZ.out;exact⟨c',f',rfl,by rw[j.vs],⟨j.at_,j.sum,j.ty,j.ar,j.bN,j.tick,j.cU,rfl,j.d⟩,ho,A2,(Step.below B6.a c).trans S7⟩
end
end Co
namespace Co
open Go.RowKit
open Im (Sl)
open ImW
section
variable {w w':World} {c:C} {fs l:List Fi} {f:Fi}
theorem Mp (l:List Fi) (f:Fi) (n:Int) (hn:n=(l.length:Int)+1):bf (kC (l++[f])) n=kC l:=by
 subst hn;refine qe (wQ (mI _) _) (mI _) λk=>?_;rw[wU];unfold kC;rw[fg,fg];simp only[Int.ofNat_zero,Int.sub_zero];by_cases hk: (l.length:Int)+1=k
 ·rw[if_pos hk];split
  ·rw[List.getElem?_eq_none om];rfl
  ·rfl
 ·rw[if_neg hk];by_cases h0: (0:Int)<k
  ·rw[if_pos h0,if_pos h0,List.getElem?_append];split
   ·rfl
   ·rw[List.getElem?_eq_none (l:=l) om,List.getElem?_eq_none (by simp only[List.length_singleton];omega)]
  ·rw[if_neg h0,if_neg h0]
theorem bD.pop (h:bD w c (l++[f])) (ht:w.mapTurned w' c.files) (hm:ay w' prog 3 c.files (kC l)):bD w' c l/\Step w c w' c:=by
 have T:=bL ht;refine⟨h.qv T (λb e _=>.inl e) rfl (λ_ _=>rfl) (λb hb=>h.hi b (Nat.le_trans T.size hb)) hm (λi g hg=>?_) (by have:=h.gM;simp at this;omega),T.mono λb e=>by rw[e,h.o2];decide,λ_ _=>rfl⟩;have hg2: (l++[f])[i]? =some g:=by rw[List.getElem?_append_left (List.getElem?_eq_some_iff.1 hg).1];exact hg
 exact(h.fi i g hg2).bU T (λb e _=>by rw[e,h.o2];omega) (λ_ _=>rfl)
theorem bD.OA (h:bD w c fs) (ht:w.mapTurned w' c.gone) {b_:KV} (hm:ay w' prog 3 c.gone b_):bD w' {c with b_:=b_} fs/\Step w c w' {c with b_:=b_}:=by
 have T:=bL ht;have n0:∀b,c.own b≠3->¬b=c.gone:=λb hb e=>hb (by rw[e];exact h.o3);refine⟨{
  core:=T.blk h.core (n0 _ (by rw[h.o1];decide))
  len:=⟨h.len.aF,h.len.av,h.len.maps,h.len.used,h.len.dH,h.len.dG⟩
  files:=T.map h.files (n0 _ (by rw[h.o2];decide))
  gone:=hm
  aB:=T.map h.aB (n0 _ (by rw[h.o4];decide))
  bad:=T.map h.bad (n0 _ (by rw[h.ob];decide))
  o1:=h.o1
  o2:=h.o2
  o3:=h.o3
  o4:=h.o4
  ob:=h.ob
  hi:=λb hb=>h.hi b (Nat.le_trans T.size hb)
  fi:=λi g hg=>(h.fi i g hg).bU T (λb e _=>by rw[e,h.o3];omega) (λ_ _=>rfl)
  aU:=⟨(T.fe h.aU.1 lh λg hg=>n0 g (by rw[(h.aU.2 g hg).1];decide)).more T.size,λb hb2=>⟨(h.aU.2 b hb2).1,Nat.lt_of_lt_of_le (h.aU.2 b hb2).2 T.size⟩⟩
  gl:=h.gl.bU T (λb e _=>by rw[e,h.o3];decide) (λ_ _=>rfl)
  gM:=h.gM},T.mono λb e=>by rw[e,h.o3];decide,λ_ _=>rfl⟩
def Ot (w:World) (c:C) (l:List Fi) (e:Ending) (w':World):Prop:=∃c',e=.returned (i6 0)/\c'={c with av:=c.av.set (l.length+1) (i6 0),b_:=dk c.b_ ((l.length:Int)+1) (.agg #[])}/\bD w' c' l/\Step w c w' c'
theorem tR (h:bD w c (l++[f])) (m:List Sl) (hm:m.length=40) (hs:c.aF=ag m) (hl:l.length<39) (hd:Im.dY m ((l.length:Int)+1)≠0) (hg:c.b_.length<=100) (ino:Int) (hino:ino=(l.length:Int)+1):
 Calls prog 76 #[pt c.g 0,i6 ino] w (Ot w c l):=by
 have H:=ja h;have HS:=ja hs;have HM:=ja hm;have HI:=ja hino;have hf1: (l++[f])[l.length]? =some f:=by rw[List.getElem?_append_right lh,Nat.sub_self];rfl
 have HF:=ja hf1;have HDE:=ja (show Im.dY m ino≠0 by rw[hino];exact hd);have hde: (((Im.dY m ino:Nat):Int)==0)=false:=by rw[hino,beq_eq_false_iff_ne];omega
 obtain⟨n,hn⟩:∃n:Nat,ino=(n:Int):=⟨l.length+1,by omega⟩;have hnl:n=l.length+1:=by omega
 subst hn;have HNL:=ja hnl;have HD:=ja hde;clear h hs hm hino hf1 hde hd hnl;go_enter func76,ntmps76;go_wp2_with fail
 refine(i' H.a l.length f HF.a om _ HI.a).mono ?_;rintro e w1 ⟨rfl,b1⟩;have H1:=ja (H.a.below b1);have B1:=ja b1;clear b1;have hrs:w1.rangeAt c.g 7 (ag m):=by rw[<-HS.a];exact H1.a.core.bF 7 _ (by rw[H.a.len.aF];exact qZ H.a.len)
 go_wp2_with(first|refine aw 99 (.tmp 22) rfl rfl c.g 7 rfl (ag m) _ hrs underlying99 rfl (oZ m HM.a) ?_)
 refine(ImW.tR m (n:Int) w1 HM.a HDE.a).mono ?_;rintro e w2 ⟨rfl,b2⟩;have H2:=ja (H1.a.below b2);have B2:=ja (B1.a.trans (b2.mono B1.a.size));obtain⟨m',hm'⟩:∃m',m'=Im.mZ m (n:Int):=⟨_,rfl⟩;have HML:=ja (show m'.length=40 by rw[hm'];unfold Im.mZ;split;rw[List.length_set];exact HM.a;rfl);unfold eC;rw[<-hm'];clear hm' b2 hrs;have hzl: (ag m').length<=zeroCells99.size:=by rw[au,HML.a];exact Nat.le_refl 120
 go_upto_region 5 with(with_reducible refine bE rfl 99 (.tmp 7) (.tmp 26) rfl (ag m') rfl rfl hzl rfl (oZ m' HML.a) cj ?_)
 obtain⟨W3,hW3⟩:=ex ((w2.alloc (.cells zeroCells99 99)).setCells w2.heap.size 0 (ag m'));have b3:Bw w2 W3:=by rw[<-hW3];exact aS (bh.alloc lh _) lh 0 (ag m')
 rw[hW3];have H3:=H2.a.below b3;have S3:=Step.below (B2.a.trans (b3.mono B2.a.size)) c;generalize w2.heap.size=g7;have hn40:n<40:=by have:=HNL.a;omega
 have hwf:=cC (n:Int) om om;obtain⟨w5,hr5,hm5,ht5⟩:=ay.drop H3.files az underlying95 (n:Int) hwf 0;rw[Mp l f _ HI.a]at hm5;obtain⟨H5,S5⟩:=H3.pop ht5 hm5;have hn41: (n:Int)<40:=by omega
 have H6:=H5.p_ n hn40 (i6 0);have S6:=H5.step (c':={c with av:=c.av.set n (i6 0)}) (af.setCell w5 c.g (127+n) (i6 0)) rfl;obtain⟨w7,hr7,hm7,ht7⟩:=ay.store H6.gone az underlying101 (by rw[aq];show c.b_.length<_;omega) (n:Int) hwf (.agg #[]);obtain⟨H7,S7⟩:=H6.OA ht7 hm7;have d0:W3.cell? (ae c.g 6)=some (.map (some c.files)):=(H3.cell _).trans (cg H3.len);obtain⟨tv,htv⟩:∃tv,c.av[n]? =some tv:=⟨_,List.getElem?_eq_getElem (by rw[H3.len.av];exact hn40)⟩;have d1:w5.cell? (ae c.g (127+n))=some tv:=(H5.cell _).trans ((fO H5.len n hn40).trans htv);have f1:=H5.core.frozen (127+n);have d2: (w5.setCell (ae c.g (127+n)) (i6 0)).cell? (ae c.g 167)=some (.map (some c.gone)):=(H6.cell _).trans (jq H6.len);have HZ:=Lib.hid (⟨H7,((S3.trans S5).trans S6).trans S7⟩:_/\_);clear hW3 b3 H3 S3 hm5 ht5 H5 S5 H6 S6 hm7 ht7 H7 S7 hwf hzl htv;have hq:=HD.a;go_wp2;go_ret;have e:n=l.length+1:=HNL.a;have e2: ((l.length:Int)+1)=(n:Int):=by omega
 refine⟨_,rfl,rfl,?_⟩;rw[<-e,e2];exact HZ.out
end
end Co
namespace Co
open Go.RowKit
section
variable {w w':World} {own:Nat->Nat} {i:Nat} {f:Fi}
def Oi (w:World) (f:Fi) (e:Ending) (w':World):Prop:=∃b,e=.returned (.bool b)/\(f.cU=none->b=true)/\Bw w w'
theorem rZ (h:kB w own i f) (hw:f.cU=none):Calls prog 170 #[pt f.g 0] w (Oi w f):=by
 have I:w.cell? (ae f.g 31)=some (.pointer none):=(h.blk.cell 31).trans (by show some (tV f.cU)=_;rw[hw];rfl);clear h hw;go_enter func170,ntmps170;go_wp2_with fail
 go_quiet (fail);go_wp2;go_ret;exact⟨_,rfl,λ_=>rfl,below_drewN bh _⟩
theorem sy (h:kB w own i f) (p:W) (hw:f.cU=some p) (hv:f.vs.length<=100000):Calls prog 170 #[pt f.g 0] w (Oi w f):=by
 have A':w.cell? (ae f.g 31)=some (pt p.b 0):=(h.blk.cell 31).trans (by show some (tV f.cU)=_;rw[hw];rfl);have A4:w.cell? (ae f.g 30)=some (.bool false):=h.blk.cell 30;have A5:w.cell? (ae f.g 26)=some (.map (some f.fresh)):=h.blk.cell 26;have A6:w.cell? (ae f.g 27)=some (.map (some f.bA)):=h.blk.cell 27;have A7:w.cell? (ae f.g 28)=some (.map (some f.lost)):=h.blk.cell 28;have A8:w.cell? (ae f.g 29)=some (.map (some f.nodes)):=h.blk.cell 29;obtain⟨n,hn⟩:∃n:Nat,f.vs.length=n:=⟨_,rfl⟩;have A0:=λn=>(h.fresh.ext (below_drewN bh n)).len underlying152 3;have A9:=λn=>(h.bA.ext (below_drewN bh n)).len underlying101 3;have AI:=λn=>(h.lost.ext (below_drewN bh n)).len underlying101 3;have AR:=λn=>(h.nodes.ext (below_drewN bh n)).len underlying101 3;simp only[mg,hn]at A0;rw[hn]at hv;have HN:=ja (show¬f.cU=none by rw[hw];simp);have H:=ja h;have HP:=ja (h.cU p hw);clear h hw hn;have hg: (0:Int)<(n:Int)\/¬(0:Int)<(n:Int):=by omega
 rcases hg with hg|hg
 ·have hd:decide ((0:Int)<(n:Int))=true:=decide_eq_true hg;have s1:IntKind.i64.wrap ((n:Int)+0)=(n:Int):=(by rw[Int.add_zero];exact IntWalk.i64_in _ om);have s2:IntKind.i64.wrap (n:Int)=(n:Int):=IntWalk.i64_in _ om;go_enter func170,ntmps170;(go_wp2_with fail);go_quiet (fail);go_wp2;go_ret;exact⟨_,rfl,λ_=>rfl,below_drewN bh _⟩
 ·have hd:decide ((0:Int)<(n:Int))=false:=decide_eq_false hg;have s1:IntKind.i64.wrap ((n:Int)+0)=(n:Int):=(by rw[Int.add_zero];exact IntWalk.i64_in _ om);have s2:IntKind.i64.wrap (n:Int)=(n:Int):=IntWalk.i64_in _ om;go_enter func170,ntmps170;(go_wp2_with fail);go_quiet (fail);have I:=below_drewN (Below.refl w.heap.size w) nq;have U:=HP.a.bU (af.aj (X:=λ_=>False) I) (λ_ e _=>e.elim) (λ_ _=>rfl) (own':=own);have H1:=H.a.below I;obtain⟨J,A1⟩:=ex (w.drewN nq);rw[A1]at I U H1|-;have A2:J.rangeAt p.b 2 p.x.cells:=U.blk.bF 2 _ rfl;have d31:J.cell? (ae f.g 31)=some (pt p.b 0):=cl I H.a.blk.lt A';have j: (prog.info? 41).map (·.size)=some p.x.cells.length:=kj;have R:∀v∈p.x.cells,v.oneCell'=true:=(by intro v hv;have:v∈p.x.cells:=hv;simp only[X.cells,Nk,List.mem_cons,List.not_mem_nil,or_false]at this;rcases this with rfl|rfl|rfl|rfl|rfl|rfl|rfl|rfl|rfl|rfl|rfl|rfl|rfl|rfl|rfl|rfl|rfl|rfl|rfl|rfl|rfl|rfl|rfl<;>rfl);clear A5 A6 A7 A8 A4 A' A0 A9 AI AR s1 s2 hd A1;go_upto_region 4 with(first|refine aw 41 (.tmp 46) rfl rfl p.b 2 rfl p.x.cells _ A2 underlying41 rfl j ?_|(with_reducible refine bE rfl 41 (.tmp 3) (.tmp 47) rfl p.x.cells rfl rfl ?_ rfl j R ?_))
  ·exact Nat.le_refl 23
  generalize hW:J.alloc (.cells _ 41)=wa;obtain⟨z,hz,ka⟩:∃z:List Value,z.length=23/\ak wa J.heap.size 41 z:=⟨_,rfl,by rw[<-hW];exact ak.new J _ _⟩;have ba:Bw J wa:=(by rw[<-hW];exact bh.alloc lh _);have k2:=ka.setCells p.x.cells 0 (by rw[hz];exact Nat.le_refl 23);rw[ck z p.x.cells (by rw[hz];rfl)]at k2;have b2:=aS ba lh 0 p.x.cells;generalize wa.setCells J.heap.size 0 p.x.cells=w2 at k2 b2|-;have H2:=H1.blk.ext b2;obtain⟨g3,A3⟩:=ex J.heap.size;rw[A3]at k2|-;have o:Bw w w2:=I.trans (b2.mono I.size);have x1:w2.cell? (ae g3 1)=some (i6 p.x.ar):=k2.cell 1;have x3:w2.cell? (ae g3 3)=some (i6 p.x.size):=k2.cell 3;have x4:w2.cell? (ae g3 4)=some (i6 p.x.tick):=k2.cell 4;have y1:w2.cell? (ae f.g 3)=some (i6 f.ar):=H2.cell 3;have y3:w2.cell? (ae f.g 5)=some (i6 (f.d.length:Int)):=H2.cell 5;have y4:w2.cell? (ae f.g 6)=some (i6 f.tick):=H2.cell 6;clear hW hz ka ba A2 j R d31 I b2 k2 H1 H2 U A3;generalize f.ar=a1 at*;generalize p.x.ar=I at*;generalize p.x.size=b3 at*;generalize f.tick=a4 at*;generalize p.x.tick=b4 at*;generalize f.d.length=a3 at*;clear HP H hv hg;simp only[Act.put];rcases Decidable.em (a1=I)with e1|e1
  ·subst e1;rcases Decidable.em ((a3:Int)=b3)with e3|e3
   ·subst e3;go_quiet (fail);go_wp2;go_ret;exact⟨_,rfl,λe=>absurd e HN.a,below_drewN o _⟩
   ·have d1:decide ((a3:Int)=b3)=false:=decide_eq_false e3;have d2: ((a3:Int)==b3)=false:=beq_eq_false_iff_ne.2 e3;have d3: ((a3:Int) != b3)=true:=bne_iff_ne.2 e3;go_quiet (fail);go_wp2;go_ret;exact⟨_,rfl,λe=>absurd e HN.a,below_drewN o _⟩
  ·have d1:decide (a1=I)=false:=decide_eq_false e1;have d2: (a1==I)=false:=beq_eq_false_iff_ne.2 e1;have d3: (a1 != I)=true:=bne_iff_ne.2 e1;clear y3 y4 x3 x4;go_quiet (fail);go_wp2;go_ret;exact⟨_,rfl,λe=>absurd e HN.a,below_drewN o _⟩
theorem jR (h:kB w own i f) (hv:f.vs.length<=100000):Calls prog 170 #[pt f.g 0] w (Oi w f):=by
 cases hw:f.cU with
 |none=>exact rZ h hw
 |some p=>exact sy h p hw hv
end
end Co
end Go.Proofs.YtdhgejiacehpbaaGreatDoor
namespace Go.Proofs
open Go.Shelf
def Tryz.JE:Go.Shelf.Ren:=⟨λ|189=>92|125=>148|257=>147|128=>195|129=>196|294=>186|295=>187|296=>188|297=>189|298=>190|299=>191|216=>192|300=>193|301=>194|328=>231|329=>232|330=>233|331=>234|332=>235|215=>236|343=>271|n=>n,λ|28=>50|3=>3|46=>248|0=>0|51=>36|53=>198|4=>4|183=>293|182=>292|131=>297|5=>5|9=>9|218=>345|222=>349|228=>397|229=>398|n=>n,λ|n=>n⟩
theorem Tryz.Mh:Go.Proofs.Lays.n189 Tryz.prog Tryz.JE:={
 mixed:=by kernel_rfl
 f125:=Tryz.func148.trans (congrArg some (by kernel_rfl))
 f128:=Tryz.func195.trans (congrArg some (by kernel_rfl))
 f129:=Tryz.func196.trans (congrArg some (by kernel_rfl))
 f189:=Tryz.func92.trans (congrArg some (by kernel_rfl))
 f215:=Tryz.func236.trans (congrArg some (by kernel_rfl))
 f216:=Tryz.func192.trans (congrArg some (by kernel_rfl))
 f257:=Tryz.func147.trans (congrArg some (by kernel_rfl))
 f294:=Tryz.func186.trans (congrArg some (by kernel_rfl))
 f295:=Tryz.func187.trans (congrArg some (by kernel_rfl))
 f296:=Tryz.func188.trans (congrArg some (by kernel_rfl))
 f297:=Tryz.func189.trans (congrArg some (by kernel_rfl))
 f298:=Tryz.func190.trans (congrArg some (by kernel_rfl))
 f299:=Tryz.func191.trans (congrArg some (by kernel_rfl))
 f300:=Tryz.func193.trans (congrArg some (by kernel_rfl))
 f301:=Tryz.func194.trans (congrArg some (by kernel_rfl))
 f328:=Tryz.func231.trans (congrArg some (by kernel_rfl))
 f329:=Tryz.func232.trans (congrArg some (by kernel_rfl))
 f330:=Tryz.func233.trans (congrArg some (by kernel_rfl))
 f331:=Tryz.func234.trans (congrArg some (by kernel_rfl))
 f332:=Tryz.func235.trans (congrArg some (by kernel_rfl))
 f343:=Tryz.func271.trans (congrArg some (by kernel_rfl))
 t0:=Tryz.underlying0
 a0:=Tryz.isAgg0
 z0:=Tryz.sizeOf0
 v0:=Tryz.zeroValue0
 t3:=Tryz.underlying3
 a3:=Tryz.isAgg3
 z3:=Tryz.sizeOf3
 v3:=Tryz.zeroValue3
 t4:=Tryz.underlying4
 a4:=Tryz.isAgg4
 z4:=Tryz.sizeOf4
 v4:=Tryz.zeroValue4
 t5:=Tryz.underlying5
 a5:=Tryz.isAgg5
 z5:=Tryz.sizeOf5
 v5:=Tryz.zeroValue5
 t9:=Tryz.underlying9
 a9:=Tryz.isAgg9
 z9:=Tryz.sizeOf9
 v9:=Tryz.zeroValue9
 t28:=Tryz.underlying50
 a28:=Tryz.isAgg50
 z28:=Tryz.sizeOf50
 v28:=Tryz.zeroValue50
 t46:=Tryz.underlying248
 a46:=Tryz.isAgg248
 z46:=Tryz.sizeOf248
 v46:=Tryz.zeroValue248
 t51:=Tryz.underlying36
 a51:=Tryz.isAgg36
 z51:=Tryz.sizeOf36
 v51:=Tryz.zeroValue36
 t53:=Tryz.underlying198
 a53:=Tryz.isAgg198
 z53:=Tryz.sizeOf198
 v53:=Tryz.zeroValue198
 t131:=Tryz.underlying297
 a131:=Tryz.isAgg297
 z131:=Tryz.sizeOf297
 v131:=Tryz.zeroValue297
 t182:=Tryz.underlying292
 a182:=Tryz.isAgg292
 z182:=Tryz.sizeOf292
 v182:=Tryz.zeroValue292
 t183:=Tryz.underlying293
 a183:=Tryz.isAgg293
 z183:=Tryz.sizeOf293
 v183:=Tryz.zeroValue293
 t218:=Tryz.underlying345
 a218:=Tryz.isAgg345
 z218:=Tryz.sizeOf345
 v218:=Tryz.zeroValue345
 t222:=Tryz.underlying349
 a222:=Tryz.isAgg349
 z222:=Tryz.sizeOf349
 v222:=Tryz.zeroValue349
 t228:=Tryz.underlying397
 a228:=Tryz.isAgg397
 z228:=Tryz.sizeOf397
 v228:=Tryz.zeroValue397
 t229:=Tryz.underlying398
 a229:=Tryz.isAgg398
 z229:=Tryz.sizeOf398
 v229:=Tryz.zeroValue398}
open Go.Sort Go.RowKit in
theorem Tryz.slices_Sort_int (blk off cap:Nat) (zs:List Int) (w:World) (hH:Holds (Value.int .i64) w blk off zs.toArray) (hblk:blk<w.heap.size) (hsz:zs.length<4611686018427387904):
 Calls Tryz.prog 92 #[.slice (some ⟨blk,off,none⟩) zs.length cap] w λe w'=>e=.returned (.tuple #[])/\∃n os,w'=grow (putRow (Value.int .i64) (Sort.ahead w n) blk off (zs.mergeSort λx y=>decide (x<=y)).toArray) os:=Any.slices_Sort_int Tryz.Mh blk off cap zs w hH hblk hsz
def Tryz.Je:Go.Shelf.Ren:=⟨λ|107=>284|108=>317|n=>n,λ|28=>50|3=>3|4=>4|0=>0|n=>n,λ|n=>n⟩
theorem Tryz.Mg:Go.Proofs.Lays.n107 Tryz.prog Tryz.Je:={
 mixed:=by kernel_rfl
 f107:=Tryz.func284.trans (congrArg some (by kernel_rfl))
 f108:=Tryz.func317.trans (congrArg some (by kernel_rfl))
 t0:=Tryz.underlying0
 a0:=Tryz.isAgg0
 z0:=Tryz.sizeOf0
 v0:=Tryz.zeroValue0
 t3:=Tryz.underlying3
 a3:=Tryz.isAgg3
 z3:=Tryz.sizeOf3
 v3:=Tryz.zeroValue3
 t4:=Tryz.underlying4
 a4:=Tryz.isAgg4
 z4:=Tryz.sizeOf4
 v4:=Tryz.zeroValue4
 t28:=Tryz.underlying50
 a28:=Tryz.isAgg50
 z28:=Tryz.sizeOf50
 v28:=Tryz.zeroValue50}
open Go.Lib in
theorem Tryz.slices_Contains_int (b off n c:Nat) (zs:List Int) (x:Int) (w:World) (hz:n<=zs.length) (hbig:n<=9223372036854775807) (hc:∀j,j<zs.length->w.cell? ⟨b,off+j,none⟩=some (.int .i64 (zs.getD j 0))):
 Calls Tryz.prog 284 #[.slice (some ⟨b,off,none⟩) n c,.int .i64 x] w λe w'=>e=.returned (.bool ((zs.take n).contains x))/\w'=w:=Any.slices_Contains_int Tryz.Mg b off n c zs x w hz hbig hc
open Go.Lib in
theorem Tryz.slices_Contains_int_empty (a:Option Addr) (c:Nat) (x:Int) (w:World):
 Calls Tryz.prog 284 #[.slice a 0 c,.int .i64 x] w λe w'=>e=.returned (.bool false)/\w'=w:=Any.slices_Contains_int_empty Tryz.Mg a c x w
def Tryz.JB:Go.Shelf.Ren:=⟨λ|112=>226|n=>n,λ|28=>50|3=>3|4=>4|0=>0|n=>n,λ|n=>n⟩
theorem Tryz.Nu:Go.Proofs.Lays.n112 Tryz.prog Tryz.JB:={
 mixed:=by kernel_rfl
 f112:=Tryz.func226.trans (congrArg some (by kernel_rfl))
 t0:=Tryz.underlying0
 a0:=Tryz.isAgg0
 z0:=Tryz.sizeOf0
 v0:=Tryz.zeroValue0
 t3:=Tryz.underlying3
 a3:=Tryz.isAgg3
 z3:=Tryz.sizeOf3
 v3:=Tryz.zeroValue3
 t4:=Tryz.underlying4
 a4:=Tryz.isAgg4
 z4:=Tryz.sizeOf4
 v4:=Tryz.zeroValue4
 t28:=Tryz.underlying50
 a28:=Tryz.isAgg50
 z28:=Tryz.sizeOf50
 v28:=Tryz.zeroValue50}
open Go.RowKit Go.Lib Go.Sort in
theorem Tryz.slices_Reverse_int_empty (a:Option Addr) (cap:Nat) (w:World):
 Calls Tryz.prog 226 #[.slice a 0 cap] w λe w'=>e=.returned (.tuple #[])/\w'=w:=Any.slices_Reverse_int_empty Tryz.Nu a cap w
def Tryz.Gv:Go.Shelf.Ren:=⟨λ|15=>212|n=>n,λ|22=>50|3=>3|4=>4|n=>n,λ|n=>n⟩
theorem Tryz.Gx:Go.Proofs.Lays2.n15 Tryz.prog Tryz.Gv:={
 mixed:=by kernel_rfl
 f15:=Tryz.func212.trans (congrArg some (by kernel_rfl))
 t3:=Tryz.underlying3
 a3:=Tryz.isAgg3
 z3:=Tryz.sizeOf3
 v3:=Tryz.zeroValue3
 t4:=Tryz.underlying4
 a4:=Tryz.isAgg4
 z4:=Tryz.sizeOf4
 v4:=Tryz.zeroValue4
 t22:=Tryz.underlying50
 a22:=Tryz.isAgg50
 z22:=Tryz.sizeOf50
 v22:=Tryz.zeroValue50
 i3:=by kernel_rfl}
open Go.RowKit Go.Lib in
theorem Tryz.slices_Clone_int (b off n c:Nat) (zs:List Int) (w:World) (hz:n<=zs.length) (hbig:n*8<=140737488355328) (hc:∀j,j<zs.length->w.cell? ⟨b,off+j,none⟩=some (.int .i64 (zs.getD j 0))):
 Calls Tryz.prog 212 #[.slice (some ⟨b,off,none⟩) n c] w λe w'=>∃v',e=.returned v'/\w'.ownsRow w.heap.size 3 1 v' n ((zs.take n).map (Value.int .i64))/\v'≠.slice none 0 0/\Below w.heap.size w w':=Any.slices_Clone_int Tryz.Gx b off n c zs w hz hbig hc
open Go.RowKit Go.Lib in
theorem Tryz.slices_Clone_int_nil (n c:Nat) (w:World):
 Calls Tryz.prog 212 #[.slice none n c] w λe w'=>e=.returned (.slice none 0 0)/\w'=w:=Any.slices_Clone_int_nil Tryz.Gx n c w
open Go.RowKit Go.Sort in
theorem Tryz.slices_Sort_int_none (p:Option Addr) (cap:Nat) (w:World):
 Calls Tryz.prog 92 #[.slice p 0 cap] w λe w'=>e=.returned (.tuple #[])/\w'=w:=Any.slices_Sort_int_none Tryz.Mh p cap w
end Go.Proofs
namespace Go.Proofs.YtdhgejiacehpbaaGreatDoor
open Go.Proofs.Tryz
namespace Co
open Go.RowKit
section
variable {w w':World}
def ints (l:List Int):List Value:=l.map (Value.int .i64)
def keys (l:KV):List Int:=l.map (·.1)
theorem dZ {base:Nat} {e:TypeId} {sz n:Nat} {v:Value} {xs:List Value} (h:w.ownsRow base e sz v n xs):∃A c,v=.slice A n c:=by
 rcases h.2 with⟨rfl,rfl⟩|⟨J,I,cur,rfl,_⟩
 ·exact⟨_,_,rfl⟩
 ·exact⟨_,_,rfl⟩
theorem oS {k:Int} {v:Value}:∀{l:KV},bY l->(k,v)∈l->(keys l).Perm (keys (bf l k)++[k])
 |[],_,h=>by cases h
 |y::r,hr,h=>by
  unfold bY at hr;rw[List.pairwise_cons]at hr;have e:bf (y::r) k=if y.1=k then bf r k else y::bf r k:=(by unfold bf;rw[List.filter_cons];by_cases h:y.1=k<;>simp[h]);rw[e];by_cases I:y.1=k
  ·rw[if_pos I];have:bf r k=r:=List.filter_eq_self.2 λz J=>(by have:=hr.1 z J;simp;omega);rw[this];subst I;exact(List.perm_append_singleton _ _).symm
  ·rw[if_neg I];rcases List.mem_cons.1 h with h|h
   ·exact absurd (congrArg (·.1) h).symm I
   ·exact(oS hr.2 h).cons _
theorem kJ {P:Program} {K:TypeId} {b r:Nat} {l rem:KV} (h:aL w P K b r l rem) (hl:bY l):bY rem:=by obtain⟨left,I,_,rfl,_⟩:=h;exact List.Pairwise.filter _ hl
theorem FM {base n:Nat} {v:Value} {zs:List Int} (h:w.ownsRow base 3 1 v n (ints zs)) (hn:n=zs.length) (hs:n<=1000000):
 Calls prog 92 #[v] w λe w'=>e=.returned (.tuple #[])/\w'.ownsRow base 3 1 v n (ints (zs.mergeSort leI))/\∃row,w.grownBy w' row/\∀j,row=some j->base<=j:=by
 subst hn;rcases h.2 with⟨rfl,U⟩|⟨g,cap,cur,rfl,I,J,o,h2,h3,R⟩
 ·have hz:zs=[]:=by cases zs with
   |nil=>rfl
   |cons a r=>cases U
  subst hz;refine(Tryz.slices_Sort_int_none none 0 w).mono ?_;rintro e w' ⟨rfl,rfl⟩;exact⟨rfl,by rw[List.mergeSort_nil];exact h,none,aI bh none,λ_ e=>by cases e⟩
 ·rw[Nat.mul_one]at R;refine(Tryz.slices_Sort_int g 0 cap zs w (holds_of_blockI J R) (Array.getElem?_eq_some_iff.1 J).1 om).mono ?_;rintro e w' ⟨rfl,n,os,rfl⟩;exact⟨rfl,ownsRow_sortedI sj I J o h2 h3,some g,grownBy_sortedI _,λj e=>by cases e;exact I⟩
def FG (w:World) (l:KV) (e:Ending) (w':World):Prop:=∃v,e=.returned v/\w'.ownsRow w.heap.size 3 1 v l.length (ints (keys l))/\Bw w w'
theorem wM {l:KV} (h:bY l): (keys l).mergeSort leI=keys l:=by refine List.mergeSort_of_pairwise (List.pairwise_map.2 (h.imp λ{a b} I=>?_));simp only[leI,decide_eq_true_eq];omega
theorem AE (n:Nat) (hn:n<=100000) (z:Int) (hz:z=n) (W:World): (Instr.makeSlice 50 (i6 0) (i6 z)).run prog W=.ok (.slice (some ⟨W.heap.size,0,none⟩) 0 n) (W.alloc (.cells (madeCells (i6 0).cells (n*1)) 3)):=by subst hz;exact run_mk (P:=prog) underlying50 Sq.cI 0 n (Nat.zero_le _) om om W
theorem NV {p:Prop} (h:p:=by
 have hmk:=λW=>AE l.length hn (l.length:Int) rfl W;have H:=ja h;have HR:=ja hr;clear h hr;go_upto_region 2 with fail
 have hown:=(ak.new w 3 (madeCells #[i6 0] l.length)).own (base:=w.heap.size) lh 0 l.length 1 (by rw[Array.length_toList,Nat.mul_one];exact size_madeCells _ _) (Nat.zero_le _) (by rw[aq];omega);rw[Nat.zero_mul,List.take_zero]at hown;have b1:=(Below.refl w.heap.size w).alloc lh (.cells (madeCells #[i6 0] l.length) 3);generalize w.alloc (.cells (madeCells #[i6 0] l.length) 3)=w1 at*;obtain⟨u,hu⟩:∃u,u=Value.slice (some ⟨w.heap.size,0,none⟩) 0 l.length:=⟨_,rfl⟩;rw[<-hu]at hown|-;obtain⟨w2,hr2,hR2,hg2,hs2⟩:=aL.start (H.a.ext b1) az hU.a;have hown2:=hown.kept hg2 (Classical.em _);have b2:Bw w w2:=b1.grown hg2 b1.size (λ_ e=>by cases e);have hrr:w.heap.size<=w1.heap.size:=b1.size;obtain⟨r,hre⟩:=ex w1.heap.size;rw[hre]at hr2 hR2 hrr;have HOWN:=ja hown2;have HRG:=ja hR2;have HB:=ja b2;have HRR:=ja hrr;clear hu hown hown2 b1 b2 hg2 hs2 hR2 hmk hbl hre hrr;go_wp2;go_loopw [3,4] (λv _ wr=>∃ks rem,wr.ownsRow w.heap.size 3 1 v ks.length (ints ks)/\aL wr prog 3 b r l rem/\(ks++keys rem).Perm (keys l)/\Bw w wr) (λ_ _ wr=>wr.rangeLeft b r)
 case atStart=>exact⟨[],l,HOWN.a,HRG.a,List.Perm.refl _,HB.a⟩
 case round=>
  obtain⟨ks,rem,hown,hR,hp,hb⟩:=hrel;have hkl:ks.length<=100000:=(by have:=hp.length_eq;rw[List.length_append]at this;unfold keys at this;rw[List.length_map,List.length_map]at this;omega);have hrb:w.heap.size<=r:=HRR.a;have hbw:=H.a.lt;rcases hR.step az 0 with⟨hrem,hrun⟩|⟨n,x,w3,hmem,hwf,hrun,hR3,hg3,hsz3,hen,hlt⟩
  ·subst hrem;have HP:=ja (show ks.Perm (keys l) by simpa [keys]using hp);have HO:=ja hown;have HBB:=ja hb;clear hown hR hp hb;(go_wp2_with fail);refine(FM HO.a rfl om).mono ?_;rintro e w9 ⟨rfl,hown9,row,hg9,hrow⟩;have HO9:=ja hown9;have HB9:=ja (HBB.a.grown hg9 HBB.a.size hrow);clear hown9 hg9 hrow;go_wp2;go_ret;have e:ks.mergeSort leI=keys l:=(mergeSort_of_perm_i HP.a).trans (wM HR.a);have e2:ks.length=l.length:=(by rw[HP.a.length_eq];exact List.length_map _);have h9:=HO9.a;rw[e,e2]at h9;exact⟨_,rfl,h9,HB9.a⟩
  ·have hne:some r≠u3.ownBlock:=(by obtain⟨left,cnt,h9,_,_⟩:=hR;exact row_ne_iter hown h9);have hown3:=hown.kept hg3 (by
    cases h9:u3.ownBlock with
    |none=>exact .inl rfl
    |some j=>exact .inr (λe=>hne (by rw[h9,e])))
   have hb3:Bw w w3:=hb.grown hg3 hb.size (λj e=>by cases e;exact hrb);have hw3:=hb3.size;have HQ:=ja (⟨hR3,hp,hmem,hlt,hb3⟩:aL w3 prog 3 b r l (bf rem n)/\(ks++keys rem).Perm (keys l)/\(n,x)∈rem/\w3.rangeLeft b r<wr.rangeLeft b r/\Bw w w3);have HO3:=ja hown3;have HRM:=ja (kJ hR HR.a);clear hown hR hp hb hmem hg3 hsz3 hlt hR3 hown3 hne hb3;(go_wp2_with(at_builtin;refine bT ?_));refine aH rfl _ _ rfl rfl rfl sj underlying50 Sq.cI rfl dc HO3.a rfl (by simp[Value.oneCell']) (by rw[aq];omega) om hw3 ?_;intro v8 w8 hown8 hgr8;have hbr:b≠r:=λe=>(by rw[e]at hbw;omega);have hv8:∀q,q<w.heap.size\/q=r->some q≠u3.ownBlock:=λq hq e=>by
    rcases hq with hq|hq
    ·have:=(HO3.a.lt q e.symm).1;omega
    ·subst hq;obtain⟨left,cnt,h9,_,_⟩:=HQ.a.1;exact row_ne_iter HO3.a h9 e
   have HX:=jd hown8 (HQ.a.1.kept hgr8 (hv8 b (.inl hbw)) (hv8 r (.inr rfl))) (HQ.a.1.kN hgr8 (hv8 b (.inl hbw)) (hv8 r (.inr rfl))) (HQ.a.2.2.2.2.grown hgr8 hw3 (λj e=>(HO3.a.lt j e).1));clear hown8 hgr8 hv8;go_wp2;go_roundw;case rel=>
    refine⟨ks++[n],bf rem n,?_,HX.b,?_,HX.d⟩
    ·unfold ints;rw[List.length_append,List.map_append];exact HX.a
    ·rw[List.append_assoc];have h1: (n::keys (bf rem n)).Perm (keys rem):=(List.perm_append_singleton _ _).symm.trans (oS HRM.a HQ.a.2.2.1).symm;exact(h1.append_left ks).trans HQ.a.2.1
   case measure=>rw[HX.c];exact HQ.a.2.2.2.1):p:=h
theorem mU {b:Nat} {l:KV} (h:ay w prog 3 b l) (hr:bY l) (hn:l.length<=100000):
 Calls prog 44 #[.map (some b)] w (FG w l):=by
 have hU:=ja underlying95;have hbl:=h.len underlying95 3;go_enter func44,ntmps44;exact NV
theorem xI {b:Nat} {l:KV} (h:ay w prog 3 b l) (hr:bY l) (hn:l.length<=100000):
 Calls prog 203 #[.map (some b)] w (FG w l):=by
 have hU:=ja underlying152;have hbl:=h.len underlying152 3;go_enter func203,ntmps203;exact NV
theorem kZ {b:Nat} {l:KV} (h:ay w prog 3 b l) (hr:bY l) (hn:l.length<=100000):
 Calls prog 204 #[.map (some b)] w (FG w l):=by
 have hU:=ja underlying101;have hbl:=h.len underlying101 3;go_enter func204,ntmps204;exact NV
end
end Co
namespace Rc
open Go.RowKit
section
variable {w:World}
def Nr:List Value:=Co.FO.map (Value.int .i64)
theorem AS {P:Program} {t e:TypeId} {n:Nat} (ht:P.underlying t=some (.array n e)) (ha:∀W,(isAgg e).run P W=.ok false W) (hs:∀W,(sizeOf e).run P W=.ok 1 W) (cs:List Value) (k:Nat) (hk:k<n) (v:Value) (hv:cs[k]? =some v) (W:World):
 (Instr.index t (.agg cs.toArray) (i6 (k:Int))).run P W=.ok v W:=by
 have I: (0:Int)<=(k:Int)/\(k:Int)<(n:Int):=by omega
 have J:cs.toArray[k]? =some v:=by rw[List.getElem?_toArray];exact hv
 simp only[Instr.index,asIntOf,Sem.run_bind,Sem.run_pure,Result.andThen_ok,run_underlying ht,I,and_self,if_true,hs,Int.toNat_natCast,Nat.mul_one,part,ha,Bool.false_eq_true,if_false,J]
theorem zI (k:Nat) (hk:k<=6) (m:Int) (hm:m=if k=6 then 15 else 1) (W:World): (Instr.index 190 (.agg Nr.toArray) (i6 (k:Int))).run prog W=.ok (i6 m) W:=by
 refine AS underlying190 (λW=>by kernel_rfl) (λW=>by kernel_rfl) Nr k om _ ?_ W;subst hm;have:k=0\/k=1\/k=2\/k=3\/k=4\/k=5\/k=6:=by omega
 rcases this with rfl|rfl|rfl|rfl|rfl|rfl|rfl<;>rfl
def Gw:List Value:=List.replicate 258 (.bool false)
theorem GZ:Gw.length=258:=List.length_replicate
theorem I4 (k:Nat) (hk:k<258) (W:World): (Instr.index 389 (.agg Gw.toArray) (i6 (k:Int))).run prog W=.ok (.bool false) W:=AS underlying389 (λW=>by kernel_rfl) (λW=>by kernel_rfl) Gw k hk _ (by unfold Gw;rw[List.getElem?_replicate,if_pos hk]) W
def path (n:Nat):List Int:=if n=6 then [6,0]else [n]
theorem Gk (n:Nat): (path n).length<=2/\1<=(path n).length:=by unfold path;split<;>simp
def MZ (w:World) (n:Nat) (e:Ending) (w':World):Prop:=∃u,e=.returned (.tuple #[u,i6 0])/\w'.ownsRow w.heap.size 3 1 u (path n).length (Co.ints (path n))/\Bw w w'
theorem vK (hr:Co.nW w) (n:Nat) (hn:n<=6):Calls prog 45 #[i6 (n:Int)] w (MZ w n):=by
 have A1:w.rangeAt 0 0 Nr:=λj v hv=>by rw[Nat.zero_add];unfold Nr at hv;rw[List.getElem?_map]at hv;obtain⟨z,hz,rfl⟩:=Option.map_eq_some_iff.1 hv;exact hr j z hz
 have g1:¬(n:Int)<0:=by omega
 have g2:¬(3621:Int)<=(n:Int):=by omega
 go_enter func45,ntmps45;go_wp2;go_step3;go_wp2;go_step3;go_wp2_with(refine aw 190 (.global 0) rfl rfl 0 0 rfl Nr _ A1 underlying190 rfl kj ?_)
 go_loopg [0,4,5,6,14] 9 (λq a v _ _ u wq=>∃k:Nat,w=wq/\v=.slice none 0 0/\q+k=9/\k<=n/\u=i6 (k:Int)/\a=i6 ((n:Int)-k))
 case atStart=>exact⟨0,rfl,rfl,rfl,Nat.zero_le _,rfl,by simp⟩
 case round=>
  obtain⟨k,rfl,rfl,Ah,hk,rfl,rfl⟩:=hrel;by_cases Ao:k<n
  ·have hi:=zI k om 1 (by rw[if_neg om]) w;have h1: (1:Int)<=(n:Int)-k:=(by omega);clear A1;go_wp2;go_roundg (gk-1);case rel=>exact⟨k+1,rfl,rfl,by omega,by omega,by go_num,by go_num⟩
   case measure=>omega
  ·obtain rfl:k=n:=(by omega);obtain⟨m,hm⟩:∃m:Int,m=if k=6 then 15 else 1:=⟨_,rfl⟩
   have hi:=zI k om m hm w;have Aq:0<m:=(by subst hm;split<;>decide);have hz: ((k:Int)-k)=0:=Int.sub_self _;have h6:k≠6->(path k)=[(k:Int)]/\m=1:=λh=>⟨by unfold path;rw[if_neg h],by rw[hm,if_neg h]⟩;have J:k=6->(path k)=[6,0]/\m=15:=λh=>⟨by unfold path;rw[if_pos h],by rw[hm,if_pos h]⟩;have A3: (path k).take 1=[(k:Int)]:=by
    by_cases h:k=6
    ·rw[(J h).1,h];rfl
    ·rw[(h6 h).1];rfl
   have A4:m=if 1<(path k).length then 15 else 1:=by
    by_cases h:k=6
    ·rw[(J h).1,(J h).2];rfl
    ·rw[(h6 h).1,(h6 h).2];rfl
   have A7:=Gk k;have H6:=ja h6;have A5:=ja J;have A8:=ja A3;have A9:=ja A4;rw[hz];clear hm h6 J A3 A4 hz A1;have AI:w.ownsRow w.heap.size 3 1 (.slice none 0 0) 0 []:=World.ownsRow_nil _ _ _ _;(go_wp2_with(at_builtin;refine bT ?_));refine aH rfl _ _ rfl rfl rfl sj underlying50 Sq.cI rfl dc AI rfl (by simp[Value.oneCell']) (by rw[aq];omega) om lh ?_;intro v1 w1 R o;have AR:=ja R;have Aa:=ja ((Below.refl w.heap.size w).grown o lh (λj e=>by cases e));clear R o hi;go_wp2;(go_loopg [0,4,6] 2 (λq a v u wr=>∃t,q+t=3/\1<=t/\t<=(path k).length/\u=i6 (if t<(path k).length then 15 else 1)/\a=i6 0/\wr.ownsRow w.heap.size 3 1 v t (Co.ints ((path k).take t))/\Bw w wr));case atStart=>exact⟨1,rfl,Nat.le_refl _,A7.2,by rw[A9.a],rfl,by rw[A8.a];exact AR.a,Aa.a⟩
   case round=>
    obtain⟨t,Ar,As,Au,rfl,rfl,A',hb⟩:=hrel;have HO:=ja A';have HB:=ja hb;clear A' hb;by_cases I:t<(path k).length
    ·rw[if_pos I];have A2:k=6:=by
      by_cases h:k=6
      ·exact h
      ·rw[(H6.a h).1]at I;simp at I;omega
     obtain rfl:t=1:=(by rw[(A5.a A2).1]at I;simp at I;omega);have A6:=HB.a.size;have Ab:=ja A2;clear A2 I;(go_wp2_with(at_builtin;refine bT ?_));refine aH rfl _ _ rfl rfl rfl sj underlying50 Sq.cI rfl dc HO.a rfl (by simp[Value.oneCell']) (by rw[aq];omega) om A6 ?_;intro v2 w2 U A0;have Ad:=ja U;have Ae:=ja (HB.a.grown A0 A6 (λj e=>(HO.a.lt j e).1));clear U A0;go_wp2;go_roundg 1;case rel=>have e:=(A5.a Ab.a).1;refine⟨2,rfl,by omega,by rw[e];exact Nat.le_refl _,by rw[e];rfl,rfl,?_,Ae.a⟩;rw[e];have h2:=Ad.a;rw[e]at h2;exact h2
     case measure=>omega
    ·rw[if_neg I];obtain rfl:t=(path k).length:=(by omega);go_wp2;(try rw[Exit.noGoto_ret]);go_ret2;have h2:=HO.a;rw[List.take_length]at h2;exact⟨_,rfl,h2,HB.a⟩
def Ma (w:World) (e:Ending) (w':World):Prop:=e=.returned (.tuple #[.slice none 0 0,i6 0])/\Bw w w'
theorem CN (hr:Co.nW w) (hw:1<w.heap.size) (v:Value) (ns:List Int) (h:Is .i64 w w.heap.size v ns) (hn:∀n∈ns,0<=n/\n<6) (hl:ns.length<=100000):Calls prog 222 #[v] w (Ma w):=by
 obtain⟨A,c,rfl,A7,A8,hE⟩:=h.open_;have HR:=ja hr;have HE:=ja hE;have HN:=ja hn;clear hr hE hn h;go_enter func222,ntmps222;go_upto_region 2 with fail
 have hz:zeroCells389=Gw.toArray:=kj;obtain⟨W0,J⟩:=ex (w.alloc (.cells Gw.toArray 389));have k0:ak W0 w.heap.size 389 Gw:=by rw[<-J];exact ak.new w _ Gw.toArray
 have b0:Bw w W0:=by rw[<-J];exact(Below.refl w.heap.size w).alloc lh _
 rw[hz,J];obtain⟨g,hg⟩:=ex w.heap.size;rw[hg]at k0|-;have KO:=ja k0;have BO:=ja b0;clear hz J k0 b0 hg;go_wp2;go_loopw [6,7,8,9,10,11,17] (λ_ _ _ _ _ _ u wr=>∃k:Nat,k<=ns.length/\u=i6 (k:Int)/\Bw W0 wr) (λ_ _ _ _ _ _ u _=>ns.length-(intOf u).toNat)
 case atStart=>exact⟨0,Nat.zero_le _,rfl,Below.refl _ _⟩
 case round=>
  obtain⟨k,hk,rfl,hb⟩:=hrel;have BB:=ja (BO.a.trans (hb.mono BO.a.size));have HB:=ja hb;clear hb;by_cases R:k<ns.length
  ·obtain⟨n,hn⟩:∃n:Nat,ns[k]=(n:Int):=Int.eq_ofNat_of_zero_le (HN.a _ (List.getElem_mem R)).1;have A1:n<=6:=(by have:=(HN.a _ (List.getElem_mem R)).2;omega);obtain⟨b,off,rfl,A3,hx⟩:=HE.a k R;have U:=cl BB.a A3 hx;rw[hn]at U;have A9:=ja hn;have o:Co.nW wr:=λj z hz=>cl BB.a (by show 0<_;omega) (HR.a j z hz);have HP:=ja (vK o n A1);have A': (path n).length=1:=(by unfold path;rw[if_neg (oa ((HN.a _ (List.getElem_mem R)).2))];rfl);have A4:=ja A';clear hn hx o A';(go_wp2_with fail);refine HP.a.mono ?_;rintro e w2 ⟨u,rfl,I,b2⟩;rw[A4.a]at I;obtain⟨A2,c2,rfl⟩:=Co.dZ I;have A5:=ja (HB.a.trans (b2.mono HB.a.size));clear I b2 U;go_wp2;(go_loopw [9,10,11] (λu _ _ wq=>u=i6 1/\wq=w2) (λ_ _ _ _=>0));case atStart=>exact⟨rfl,rfl⟩
   case round=>
    obtain⟨rfl,rfl⟩:=hrel;go_wp2;go_roundw;case rel=>exact⟨k+1,by omega,by go_num,A5.a⟩
    case measure=>exact ms
  ·have A0:=(KO.a.ext HB.a).range;clear HE HN HR;have hi: (prog.info? 389).map (·.size)=some Gw.length:=(by rw[GZ];kernel_rfl);(go_wp2_with(refine aw 389 (.tmp 4) rfl rfl g 0 rfl Gw _ A0 underlying389 rfl hi ?_));clear A0 hi;(go_loopw [12,13,14,49] (λv _ _ u wq=>∃j:Nat,j<=258/\v=.slice none 0 0/\u=i6 (j:Int)/\wq=wr) (λ_ _ _ u _=>258-(intOf u).toNat));case atStart=>exact⟨0,by omega,rfl,rfl,rfl⟩
   case round=>
    obtain⟨j,hj,rfl,rfl,rfl⟩:=hrel;by_cases A6:j<258
    ·have AI:=λW=>I4 j A6 W;go_wp2;go_roundw;case rel=>exact⟨j+1,by omega,rfl,by go_num,trivial⟩
     case measure=>exact ms
    ·go_wp2;go_ret2;exact⟨rfl,BB.a⟩
end
end Rc
end Go.Proofs.YtdhgejiacehpbaaGreatDoor
