import Derived.Test.YtdhgejiacehpbaaGreatDoorA22
import Derived.Lib.AppendStr
set_option maxRecDepth 100000
set_option maxHeartbeats 16000000
set_option linter.all false
namespace Go.Proofs.YtdhgejiacehpbaaGreatDoor
open Go.Proofs.Tryz
namespace EtW
open Go.RowKit Go.ChangeShapes Go.WideShapes Go.ChangeAt
open Et (E)
theorem Bn (l:List E) (nm:List UInt8) (A:Option Addr) (c b2 b3 B k:Nat) (z:Int) (hz:z=k) (w:World) (h2:w.cell? (ae b2 0)=some (.slice A l.length c)) (h3:w.cell? (ae b3 0)=some (.string ⟨nm.toArray⟩)) (l2:b2<w.heap.size) (l3:b3<w.heap.size) (hB:B<=w.heap.size) (hE:fF w B A l) (hk:k<l.length):
 Calls prog 184 #[i6 z,pt b2 0,pt b3 0] w λe w'=>e=.returned (.bool (decide (0<=Tl.ord (Et.at_ l k).n nm)))/\Bw w w':=by
 subst hz;obtain⟨b,off,rfl,A',h0,_,_⟩:=hE k hk;generalize Et.at_ l k=y at*;have J:b<w.heap.size:=by omega
 obtain⟨o,R⟩:=ex (Tl.ord y.n nm);obtain⟨bb,I⟩:=ex (decide (0<=o));rw[R,I];have HO:=ja R;have U:=ja I;clear R I;go_enter func184,ntmps184;go_upto_region 1 with fail
 have j:Bw w w.drew:=bh.drew;refine wp_region_list 9 [(ez (.slice (some ⟨b,off,none⟩) l.length c)),(ez (i6 (k:Int))),(ez (pt b (off+k*3))),(ez (pt b (off+k*3))),(ez (.string ⟨y.n.toArray⟩)),(ez (.string ⟨nm.toArray⟩)),(ez (i6 o)),(ez (.bool bb)),(ez (.bool bb))]
  (λq=>Bw w q) kj rfl kj ?_ ?_ ?_ ?_
 ·exact j
 ·exact sv
 ·refine⟨rx [] [1] λx hG=>cl hG l2 h2,rz [] [0],rz [0,5,1,6] [],rz [2,7] [],rx [3,8] [] λx hG=>cl hG J h0,rx [] [2] λx hG=>cl hG l3 h3,?_,rx [6,11] [] λx hG=>U.a,rz [7,12] [],trivial⟩
  ·intro a x hG hd hs K hK;have h9:_=_:=hd 4 9 kj;have A0:_=_:=hd 5 10 kj;clear hd hs;refine pj ?_;go_simp;refine(rG y.n nm _).mono ?_;rintro e w' ⟨rfl,rfl⟩;rw[HO.a];exact hK _ _ rfl hG bh
 ·intro x hG;(iterate 9 rintro _ rfl);simp only[ap];(try simp only[Exit.then]);go_wp2;go_ret;exact⟨rfl,hG⟩
theorem gh (l:List E) (nm:List UInt8) (A:Option Addr) (c b2 b3 B:Nat) (z:Int) (hz:z=l.length) (w:World) (h2:w.cell? (ae b2 0)=some (.slice A l.length c)) (h3:w.cell? (ae b3 0)=some (.string ⟨nm.toArray⟩)) (l2:b2<w.heap.size) (l3:b3<w.heap.size) (hB:B<=w.heap.size) (hE:fF w B A l) (hp:l.Pairwise Et.lt) (hlc:l.length<=1000000):
 Calls prog 175 #[i6 z,.func (.func 184) #[] #[pt b2 0,pt b3 0]] w λe w'=>e=.returned (i6 (Et.pos l nm:Nat))/\Bw w w':=by
 subst hz;have U:=Et.tF l nm;have HP:=ja (λk (hk:k<l.length)=>Et.xN (nm:=nm) hp hk);have HE:=ja hE;have H2:=ja h2;have H3:=ja h3;obtain⟨ps,J⟩:=ex (Et.pos l nm);rw[J]at U HP|-;clear J hp hE h2 h3;go_enter func175,ntmps175;go_wp2;go_loopw [5,6] (λt5 t6 wr=>∃i j:Nat,t5=i6 i/\t6=i6 j/\i<=ps/\ps<=j/\j<=l.length/\Bw w wr) (λt5 t6 _=>(intOf t6).toNat-(intOf t5).toNat)
 case atStart=>exact⟨0,l.length,rfl,rfl,Nat.zero_le _,U,Nat.le_refl _,Below.refl _ _⟩
 case round=>
  obtain⟨i,j,rfl,rfl,hi,hj,A',I⟩:=hrel;by_cases A0:i<j
  ·(go_wp2_with fail);obtain⟨h,hh⟩:∃h:Nat,((i:Int)+(j:Int))/2=h:=⟨(i+j)/2,by omega⟩;have A1:i<=h/\h<j:=(by omega);simp only[hh];clear hh;refine(Bn l nm A c b2 b3 B h _ rfl wr (cl I l2 H2.a) (cl I l3 H3.a) (Nat.lt_of_lt_of_le l2 I.size) (Nat.lt_of_lt_of_le l3 I.size) (Nat.le_trans hB I.size) (HE.a.below (I.mono hB)) om).mono ?_;rintro e w5 ⟨rfl,b5⟩;have R:=HP.a h om;have o:=Et.tu (Et.at_ l h).n nm;replace I:=I.trans (b5.mono I.size);clear b5;by_cases ho:0<=Tl.ord (Et.at_ l h).n nm
   ·have J:ps<=h:=by
     rcases Nat.lt_or_ge h ps with h9|h9
     ·have:=R.2 h9;omega
     ·exact h9
    rw[decide_eq_true ho];clear R o ho;go_wp2;go_roundw;case rel=>exact⟨i,h,rfl,rfl,hi,J,by omega,I⟩
    case measure=>exact ms
   ·have J:h+1<=ps:=R.1 om;rw[decide_eq_false ho];clear R o ho;go_wp2;go_roundw;case rel=>exact⟨h+1,j,by go_num,rfl,J,hj,A',I⟩
    case measure=>exact ms
  ·obtain rfl:i=ps:=(by omega);obtain rfl:i=j:=(by omega);go_wp2;go_ret;exact⟨rfl,I⟩
theorem k_ (v:Value) (l:List E) (nm:List UInt8) (w:World) (hl:bP w w.heap.size v l) (hs:kP l) (hn:nm.length<1099511627776):
 Calls prog 143 #[v,.string ⟨nm.toArray⟩] w λe w'=>∃i:Nat,e=.returned (.tuple #[i6 (i:Int),i6 (Et.bj l nm)])/\(Et.bj l nm=0\/Et.bj l nm=6->i=Et.pos l nm)/\Bw w w':=by
 obtain⟨A,c,rfl,Aa,Ab,hE⟩:=hl.open_;have HL:=ja hl;have HE:=ja hE;have J:=ja (show Et.bj l nm=if Et.aV l then(if Tl.dR nm then(if Et.ik l nm then 0 else 6)else 11)else 1 from rfl)
 clear hl hE;have k2:=(ak.new w 183 #[.slice A l.length c]).alloc (.cells #[.string ⟨nm.toArray⟩] 9);have k3:=ak.new (w.alloc (.cells #[.slice A l.length c] 183)) 9 #[.string ⟨nm.toArray⟩];rw[World.size_alloc]at k3;have I:=((Below.refl w.heap.size w).alloc lh (.cells #[.slice A l.length c] 183)).alloc sj (.cells #[.string ⟨nm.toArray⟩] 9);go_enter func143,ntmps143;go_upto_region 1 with fail
 obtain⟨w0,A1⟩:=ex ((w.alloc (.cells #[.slice A l.length c] 183)).alloc (.cells #[.string ⟨nm.toArray⟩] 9));rw[A1]at k2 k3 I|-;clear A1;obtain⟨j,A2⟩:=ex w.heap.size;rw[A2]at k2 k3|-;clear A2;have c2:w0.cell? (ae j 0)=some (.slice A l.length c):=k2.cell 0;go_wp2_with fail
 refine(cP _ l w0 ((HL.a.below I).more I.size) hs).mono ?_;rintro e w1 ⟨rfl,b1⟩;replace k2:=k2.ext b1;replace k3:=k3.ext b1;replace I:=I.trans (b1.mono I.size);clear c2 b1;cases hm:Et.aV l with
 |false=>rw[hm,if_neg dc]at J;clear hm;go_wp2;go_ret2;refine⟨0,by rw[J.a];rfl,λh=>?_,I⟩;rw[J.a]at h;omega
 |true=>
  rw[hm,if_pos rfl]at J;have HM:=ja hm;clear hm;have c3:w1.cell? (ae (j+1) 0)=some (.string ⟨nm.toArray⟩):=k3.cell 0;(go_wp2_with fail);refine(sO nm w1 hn).mono ?_;rintro e w2 ⟨rfl,b2⟩;replace k2:=k2.ext b2;replace k3:=k3.ext b2;replace I:=I.trans (b2.mono I.size);clear c3 b2;cases hi:Tl.dR nm with
  |false=>rw[hi,if_neg dc]at J;clear hi;go_wp2;go_ret2;refine⟨0,by rw[J.a];rfl,λh=>?_,I⟩;rw[J.a]at h;omega
  |true=>
   rw[hi,if_pos rfl]at J;clear hi;have hp:=Et.gB HM.a;have Ad:l.length<=30:=((Et.dd l).1 HM.a).1;have U:=ja (Et.ke (nm:=nm) hp);have c2:w2.cell? (ae j 0)=some (.slice A l.length c):=k2.cell 0;have c3:w2.cell? (ae (j+1) 0)=some (.string ⟨nm.toArray⟩):=k3.cell 0;have l2:=k2.lt;have l3:=k3.lt;(go_wp2_with fail);refine(gh l nm A c j (j+1) w.heap.size _ rfl w2 c2 c3 l2 l3 I.size (HE.a.below I) hp om).mono ?_;rintro e w3 ⟨rfl,b3⟩;replace k2:=k2.ext b3;replace k3:=k3.ext b3;replace I:=I.trans (b3.mono I.size);have A3:=Et.tF l nm;have R:∃ps,Hid (Et.pos l nm=ps):=⟨_,Lib.hid rfl⟩;obtain⟨ps,R⟩:=R;rw[R.out]at A3 U|-;clear c2 c3 l2 l3 b3 hp;(go_upto_region 6 with fail);have A4:Bw w3 w3.drew:=bh.drew;have l2:=k2.lt;have l3:=k3.lt;by_cases A5:ps=l.length
   ·have A6:Et.ik l nm=false:=by
     cases h:Et.ik l nm with
     |false=>rfl
     |true=>have:=(U.a.1 h).1;omega
    rw[A6,if_neg dc]at J;have A7: ((ps:Int)==(l.length:Int))=true:=(by rw[beq_iff_eq];omega);clear A6 U A5;refine wp_region_list 13 [(ez (i6 (ps:Int))),(ez (.slice A l.length c)),(ez (i6 ((l.length:Nat):Int))),(ez (.bool true)),(ez (.bool true)),(ez undef),(ez undef),(ez undef),(ez undef),(ez undef),(ez undef),(ez undef),(ez (.bool true))]
     (λq=>Bw w3 q) kj rfl kj ?_ ?_ ?_ ?_
    ·exact A4
    ·exact sv
    ·refine⟨rz [] [6],rx [] [2] λx hG=>((k2.ext hG).cell 0:x.cell? (ae j 0)=some (.slice A l.length c)),rz [1,20] [],rz [0,19,2,21] [],rz [3,22] [],wT [4,23] [],wT [4,23] [],wT [4,23] [],wT [4,23] [],wT [4,23] [],wT [4,23] [],wT [4,23] [],rz [4,23,11,30] [],trivial⟩
    ·intro x hG;(iterate 13 rintro _ rfl);simp only[ap];(try simp only[Exit.then]);have b9:=I.trans (hG.mono I.size);go_wp2;go_ret2;exact⟨ps,by rw[J.a];rfl,λ_=>R.out.symm,b9⟩
   ·have o:ps<l.length:=(by omega);have A7: ((ps:Int)==(l.length:Int))=false:=(by rw[beq_eq_false_iff_ne];omega);obtain⟨b,off,rfl,A8,h0,_,_⟩:=(HE.a.below I) ps o;have A9:b<w3.heap.size:=Nat.lt_of_lt_of_le A8 I.size;generalize Et.at_ l ps=y at*;obtain⟨bb,A0⟩:=ex (y.n != nm);have A':Et.ik l nm= !bb:=(by rw[<-A0,Bool.eq_iff_iff,U.a];simp[o]);have AI:=ja (show((⟨y.n.toArray⟩:ByteArray).toList==(⟨nm.toArray⟩:ByteArray).toList)= !bb by rw[cD,cD,<-A0];exact(Bool.not_not _).symm);rw[A']at J;clear A' A0 U A5;refine wp_region_list 13 [(ez (i6 (ps:Int))),(ez (.slice (some ⟨b,off,none⟩) l.length c)),(ez (i6 ((l.length:Nat):Int))),(ez (.bool false)),(ez (.bool false)),(ez (.slice (some ⟨b,off,none⟩) l.length c)),(ez (i6 (ps:Int))),(ez (pt b (off+ps*3))),(ez (pt b (off+ps*3))),(ez (.string ⟨y.n.toArray⟩)),(ez (.string ⟨nm.toArray⟩)),(ez (.bool bb)),(ez (.bool bb))]
     (λq=>Bw w3 q) kj rfl kj ?_ ?_ ?_ ?_
    ·exact A4
    ·exact sv
    ·refine⟨rz [] [6],rx [] [2] λx hG=>((k2.ext hG).cell 0:x.cell? (ae j 0)=some (.slice (some ⟨b,off,none⟩) l.length c)),rz [1,20] [],rz [0,19,2,21] [],rz [3,22] [],Gq [4,23] [2] λx hG=>((k2.ext hG).cell 0:x.cell? (ae j 0)=some (.slice (some ⟨b,off,none⟩) l.length c)),Dh [4,23] [6],Dh [4,23,5,24,6,25] [],Dh [4,23,7,26] [],Gq [4,23,8,27] [] λx hG=>cl hG A9 h0,Gq [4,23] [3] λx hG=>((k3.ext hG).cell 0:x.cell? (ae (j+1) 0)=some (.string ⟨nm.toArray⟩)),?_,rz [4,23,11,30] [],trivial⟩
     ·intro a x hG hd hs K hK;have Ae:_=_:=hd 9 28 kj;have Ah:_=_:=hd 10 29 kj;have AR:_=_:=hd 4 23 kj;clear hd hs;refine kG rfl rfl rfl AR ?_;have Ao:=AI.a;generalize(⟨y.n.toArray⟩:ByteArray)=S1 at*;generalize(⟨nm.toArray⟩:ByteArray)=S2 at*;go_simp;exact hK _ _ rfl hG bh
    ·intro x hG;(iterate 13 rintro _ rfl);simp only[ap];(try simp only[Exit.then]);have b9:=I.trans (hG.mono I.size);cases bb with
     |true=>go_wp2;go_ret2;exact⟨ps,by rw[J.a];rfl,λ_=>R.out.symm,b9⟩
     |false=>go_wp2;go_ret2;exact⟨ps,by rw[J.a];rfl,λ_=>R.out.symm,b9⟩
def dx (y:E):Value:=.agg #[.string ⟨y.n.toArray⟩,i6 y.i,i6 y.t]
theorem iy: (prog.info? 70).map (λi=>(i.zero,i.size,i.bytes))=some (some (.agg #[.string ⟨#[]⟩,i6 0,i6 0]),3,32):=by kernel_rfl
theorem de (l:List E):∀u∈aK l,u.oneCell'=true:=by intro u hu;unfold aK at hu;obtain⟨p,_,hp⟩:=List.mem_flatMap.1 hu;simp only[qJ,List.mem_cons,List.not_mem_nil,or_false]at hp;rcases hp with rfl|rfl|rfl<;>rfl
theorem wx (l:List E) (k:Nat) (hk:k<=l.length): (aK l).take (k*3)=aK (l.take k):=by
 have hs:aK l=aK (l.take k)++aK (l.drop k):=by rw[<-da,List.take_append_drop]
 rw[hs,List.take_left' (by rw[pq,List.length_take,Nat.min_eq_left hk])]
theorem vq (l:List E) (k:Nat) (hk:k<=l.length): (aK l).drop (k*3)=aK (l.drop k):=by
 have hs:aK l=aK (l.take k)++aK (l.drop k):=by rw[<-da,List.take_append_drop]
 rw[hs,List.drop_left' (by rw[pq,List.length_take,Nat.min_eq_left hk])]
theorem qU (A:Option Addr) (n c k:Nat) (hk:k<=n) (z:Int) (hz:z=k) (W:World):
 (Instr.slice 183 (.slice A n c) (some (i6 z)) none none).run prog W=.ok (.slice (if c=k then A else A.map (·.add (k*3))) (n-k) (c-k)) W:=by
 subst hz;rw[run_slice_l _ _ _ _ _ kj .i64 _ om om,Int.toNat_natCast];have hs: (sizeOf (prog.elem 183)).run prog W=.ok 3 W:=kj;rw[hs];rfl
theorem qL (A:Option Addr) (n c k:Nat) (hk:k<=c) (z:Int) (hz:z=k) (W:World):
 (Instr.slice 183 (.slice A n c) none (some (i6 z)) none).run prog W=.ok (.slice A k c) W:=by
 subst hz;rw[run_slice_h _ _ _ _ _ kj .i64 _ om om,Int.toNat_natCast];have hs: (sizeOf (prog.elem 183)).run prog W=.ok 3 W:=kj;rw[hs];simp[Result.andThen,sliced];intro h;cases A<;>simp[Addr.add]
theorem cN (v:Value) (l:List E) (nm:List UInt8) (w:World) (hl:bP w w.heap.size v l) (hs:kP l) (hn:nm.length<1099511627776):
 Calls prog 138 #[v,.string ⟨nm.toArray⟩] w λe w'=>e=.returned (.tuple #[dx (Et.dN l nm),i6 (Et.bj l nm)])/\Bw w w':=by
 obtain⟨A,c,rfl,A2,A3,hE⟩:=hl.open_;have HL:=ja hl;have HE:=ja hE;have HF:=ja (show Et.dN l nm=if Et.bj l nm=0 then Et.at_ l (Et.pos l nm)else E.zero from rfl)
 clear hl hE;go_enter func138,ntmps138;go_upto_region 1 with fail
 generalize hW:w.alloc (.cells _ 70)=w0;have R:ak w0 w.heap.size 70 [.string ⟨#[]⟩,i6 0,i6 0]:=by rw[<-hW];exact ak.new w _ _
 have U:Bw w w0:=by rw[<-hW];exact bh.alloc lh _
 clear hW;obtain⟨g,hg⟩:=ex w.heap.size;have I:w.heap.size<=g:=by omega
 rw[hg]at R|-;clear hg;go_wp2_with fail
 refine(k_ _ l nm w0 ((HL.a.below U).more U.size) hs hn).mono ?_;rintro e w1 ⟨i,rfl,hi,b1⟩;replace R:=R.ext b1;replace U:=U.trans (b1.mono U.size);have HI:=ja hi;clear b1 hi;have e0:=R.cell 0;have e1:=R.cell 1;have e2:=R.cell 2;have ef:=R.frozen;by_cases J:Et.bj l nm=0
 ·have j:=HI.a (.inl J);have A':=((Et.ke (Et.gB (Et.dr J).1)).1 (Et.dr J).2.2).1;rw[<-j]at A';obtain⟨b,off,rfl,A4,h0,h1,h2⟩:=(HE.a.below U) i A';rw[if_pos J,<-j]at HF;have HZ:=ja J;rw[J];clear J j HI;generalize Et.at_ l i=y at*;go_wp2;have z4:=((R.aC 0 (.string ⟨y.n.toArray⟩)).aC 1 (i6 y.i)).aC 2 (i6 y.t);have bz:=((U.setCell (p:=ae g 0) I (.string ⟨y.n.toArray⟩)).setCell (p:=ae g 1) I (i6 y.i)).setCell (p:=ae g 2) I (i6 y.t);refine bodyPost_ret (v:=.tuple #[dx y,i6 0]) (bG [.string ⟨y.n.toArray⟩,i6 y.i,i6 y.t] _ results138 rfl z4.range underlying70 rfl kj rfl) rfl ?_;exact⟨by rw[HF.a,HZ.a],bz⟩
 ·rw[if_neg J]at HF;have A0: (Et.bj l nm != 0)=true:=bne_iff_ne.2 J;obtain⟨er,o⟩:=ex (Et.bj l nm);have A1:=ja o;rw[o]at A0|-;clear J HI o;go_wp2;have z4:=((R.aC 0 (.string ⟨#[]⟩)).aC 1 (i6 0)).aC 2 (i6 0);have bz:=((U.setCell (p:=ae g 0) I (.string ⟨#[]⟩)).setCell (p:=ae g 1) I (i6 0)).setCell (p:=ae g 2) I (i6 0);refine bodyPost_ret (v:=.tuple #[dx E.zero,i6 er]) (bG [.string ⟨#[]⟩,i6 0,i6 0] _ results138 rfl z4.range underlying70 rfl kj rfl) rfl ?_;exact⟨by rw[HF.a,A1.a],bz⟩
theorem Ag (n:Nat) (hn:n<=1000) (z:Int) (hz:z=n) (W:World): (Instr.makeSlice 183 (i6 0) (i6 z)).run prog W=.ok (.slice (some ⟨W.heap.size,0,none⟩) 0 n) (W.alloc (.cells (madeCells (Value.agg #[.string ⟨#[]⟩,i6 0,i6 0]).cells (n*3)) 70)):=by subst hz;exact run_mk (P:=prog) underlying183 iy 0 n (Nat.zero_le _) om om W
theorem bP.take {w:World} {B:Nat} {A:Option Addr} {c k:Nat} {l:List E} (h:bP w B (.slice A l.length c) l) (hk:k<=l.length):bw w B 3 (.slice A k c) k (aK (l.take k)):=by have:=bw.head h hk;rw[wx l k hk]at this;exact this
theorem bP.drop {w:World} {B:Nat} {A:Option Addr} {c k:Nat} {l:List E} (h:bP w B (.slice A l.length c) l) (hk:k<=l.length):bw w B 3 (.slice (if c=k then A else A.map (·.add (k*3))) (l.length-k) (c-k)) (l.length-k) (aK (l.drop k)):=by have:=bw.tail h hk;rw[vq l k hk]at this;exact this
theorem bP.aG {w:World} {base n:Nat} {v:Value} {l m:List E} (h:w.ownsRow base 70 3 v n (aK m)) (hm:m=l) (hn:n=l.length):bP w w.heap.size v l:=by subst hm hn;exact bw.aG h
theorem tf (v:Value) (l:List E) (xn:List UInt8) (xi xt:Int) (w:World) (hl:bP w w.heap.size v l) (hs:kP l) (hn:xn.length<1099511627776):
 Calls prog 89 #[v,.agg #[.string ⟨xn.toArray⟩,i6 xi,i6 xt]] w λe w'=>∃u,e=.returned (.tuple #[u,i6 (Et.fK l ⟨xn,xi,xt⟩)])/\bP w' w'.heap.size u (Et.eQ l ⟨xn,xi,xt⟩)/\Bw w w':=by
 obtain⟨A,c,rfl,B5,B6,hE⟩:=hl.open_;have HL:=ja hl;have o:=ja (show Et.fK l ⟨xn,xi,xt⟩=if Et.aV l then(if Tl.dR xn then(if Et.BV ⟨xn,xi,xt⟩then(if Et.ik l xn then 7 else if 30<=l.length then 8 else 0)else 1)else 11)else 1 from rfl)
 have HS:=ja (show Et.bj l xn=if Et.aV l then(if Tl.dR xn then(if Et.ik l xn then 0 else 6)else 11)else 1 from rfl)
 have Ae:=ja (show Et.eQ l ⟨xn,xi,xt⟩=if Et.fK l ⟨xn,xi,xt⟩=0 then l.take (Et.pos l xn)++(⟨xn,xi,xt⟩::l.drop (Et.pos l xn))else []from rfl)
 have A4:Hid (∀(k:Int) (W:World),Et.fK l ⟨xn,xi,xt⟩=k->k≠0->Bw w W->∃u,Ending.returned (.tuple #[.slice none 0 0,i6 k])=.returned (.tuple #[u,i6 (Et.fK l ⟨xn,xi,xt⟩)])/\bP W W.heap.size u (Et.eQ l ⟨xn,xi,xt⟩)/\Bw w W):=Lib.hid (λk W h1 h2 h3=>by rw[Ae.a,h1,if_neg h2];exact⟨_,rfl,bw.fp _ _ _,h3⟩);clear hl hE;have k3:=ak.new w 70 #[.string ⟨xn.toArray⟩,i6 xi,i6 xt];have R:=(Below.refl w.heap.size w).alloc lh (.cells #[.string ⟨xn.toArray⟩,i6 xi,i6 xt] 70);go_enter func89,ntmps89;go_wp2_with fail
 obtain⟨w0,Ao⟩:=ex (w.alloc (.cells #[.string ⟨xn.toArray⟩,i6 xi,i6 xt] 70));rw[Ao]at k3 R|-;clear Ao;obtain⟨g,hg⟩:=ex w.heap.size;rw[hg]at k3|-;clear hg;refine(k_ _ l xn w0 ((HL.a.below R).more R.size) hs hn).mono ?_;rintro e w1 ⟨i,rfl,hi,b1⟩;replace k3:=k3.ext b1;replace R:=R.trans (b1.mono R.size);have HI:=ja hi;clear b1 hi;cases hm:Et.aV l with
 |false=>rw[hm,if_neg dc]at o HS;rw[HS.a];clear hm HI;go_wp2;go_ret2;exact A4.out 1 _ o.a dc R
 |true=>
  rw[hm,if_pos rfl]at o HS;have HM:=ja hm;clear hm;cases hin:Tl.dR xn with
  |false=>rw[hin,if_neg dc]at o HS;rw[HS.a];clear hin HI;go_wp2;go_ret2;exact A4.out 11 _ o.a dc R
  |true=>
   rw[hin,if_pos rfl]at o HS;clear hin;have p0:w1.cell? (ae g 0)=some (.string ⟨xn.toArray⟩):=k3.cell 0;have p1:w1.cell? (ae g 1)=some (i6 xi):=k3.cell 1;have p2:w1.cell? (ae g 2)=some (i6 xt):=k3.cell 2;have Aq: (Et.bj l xn==1)=false:=(by rw[HS.a];split<;>decide);have Ar: (Et.bj l xn==11)=false:=(by rw[HS.a];split<;>decide);obtain⟨sr,As⟩:=ex (Et.bj l xn);rw[As]at Aq Ar HS HI|-;clear As;(go_wp2_with fail);refine(nk xn xi xt w1).mono ?_;rintro e w2 ⟨rfl,b2⟩;replace k3:=k3.ext b2;replace R:=R.trans (b2.mono R.size);clear b2 p0 p1 p2 Aq Ar;cases hib:Et.BV ⟨xn,xi,xt⟩with
   |false=>rw[hib,if_neg dc]at o;clear hib HI;go_wp2;go_ret2;exact A4.out 1 _ o.a dc R
   |true=>
    rw[hib,if_pos rfl]at o;clear hib;cases hh:Et.ik l xn with
    |true=>rw[hh,if_pos rfl]at o HS;obtain rfl:=HS.a;clear hh HI;go_wp2;go_ret2;exact A4.out 7 _ o.a dc R
    |false=>
     rw[hh,if_neg dc]at o HS;obtain rfl:=HS.a;obtain rfl:=HI.a (.inr rfl);clear hh HI HS;have B7:=((Et.dd l).1 HM.a).1;by_cases A0:30<=l.length
     ·have hf: ((l.length:Int)==30)=true:=(by rw[beq_iff_eq];omega);rw[if_pos A0]at o;clear A0;go_wp2;go_ret2;exact A4.out 8 _ o.a dc R
     ·have hf: ((l.length:Int)==30)=false:=(by rw[beq_eq_false_iff_ne];omega);rw[if_neg A0]at o;have A':=Et.tF l xn;obtain⟨ps,Au⟩:=ex (Et.pos l xn);rw[Au]at A' Ae|-;have B0:=λW=>Ag (l.length+1) om ((l.length:Int)+1) om W;have B1:=λW=>qL A l.length c ps om (ps:Int) rfl W;clear Au A0;(go_wp2_with(at_builtin;refine bT ?_));have Av: (madeCells (Value.agg #[.string ⟨#[]⟩,i6 0,i6 0]).cells ((l.length+1)*3)).size=(l.length+1)*3:=size_madeCells _ _;have I:=(ak.new w2 70 (madeCells (Value.agg #[.string ⟨#[]⟩,i6 0,i6 0]).cells ((l.length+1)*3))).own (base:=w2.heap.size) lh 0 (l.length+1) 3 (by rw[Array.length_toList];exact Av) (Nat.zero_le _) (by rw[aq];omega);rw[Nat.zero_mul,List.take_zero]at I;have Aw: (Value.agg #[.string ⟨#[]⟩,i6 0,i6 0]).cells=#[.string ⟨#[]⟩,i6 0,i6 0]:=rfl;rw[Aw]at I;have A5:=(Below.refl w2.heap.size w2).alloc lh (.cells (madeCells #[.string ⟨#[]⟩,i6 0,i6 0] ((l.length+1)*3)) 70);have Ax:=HL.a.below R;obtain⟨v1,wa,A6,J,Aa,_⟩:=aE (P:=prog) (ty:=183) underlying183 iy rfl dc I ((bP.take Ax A').ext R.size A5) (de _) (by rw[aq];omega) om A5.size;have A7:=A5.grown Aa A5.size (λj e=>(I.lt j e).1);rw[List.nil_append,Nat.zero_add]at J;refine aN rfl _ _ _ rfl rfl rfl A6 ?_;obtain⟨A1,c1,rfl⟩:=bS J;have AR:=k3.ext A7;clear A6 Aa I A5 Av Aw;have p0:wa.cell? (ae g 0)=some (.string ⟨xn.toArray⟩):=AR.cell 0;have p1:wa.cell? (ae g 1)=some (i6 xi):=AR.cell 1;have p2:wa.cell? (ae g 2)=some (i6 xt):=AR.cell 2;clear B0 B1 hf;have B':=λW=>qU A l.length c ps A' (ps:Int) rfl W;generalize hT: (if c=ps then A else A.map (·.add (ps*3)))=T at B'
      have B2:=ja hT;clear hT;(go_wp2_with(at_builtin;refine bT ?_));refine aH rfl _ _ rfl rfl rfl sj underlying183 iy rfl dc J rfl (by simp[Value.oneCell']) (by rw[aq];omega) om A7.size ?_;rintro v2 wb U Ab;have A8:=A7.grown Ab A7.size (λj e=>(J.lt j e).1);obtain⟨A2,c2,rfl⟩:=bS U;clear Ab J p0 p1 p2 AR A7;(go_wp2_with(at_builtin;refine bT ?_));have Ah:=bP.drop Ax A';rw[B2.a]at Ah;obtain⟨v3,wc,A9,AI,Ad,_⟩:=aE (P:=prog) (ty:=183) underlying183 iy rfl dc U (Ah.ext R.size A8) (de _) (by rw[aq];omega) om A8.size;have B3:=A8.grown Ad A8.size (λj e=>(U.lt j e).1);refine aN rfl _ _ _ rfl rfl rfl A9 ?_;obtain⟨A3,c3,rfl⟩:=bS AI;clear A9 Ad U A8 Ah B';go_wp2;go_ret2;refine⟨.slice A3 (ps+1+(l.length-ps)) c3,by rw[o.a];rfl,?_,R.trans (B3.mono R.size)⟩;rw[Ae.a,o.a,if_pos rfl];refine bP.aG (base:=w2.heap.size) (m:=l.take ps++(⟨xn,xi,xt⟩::l.drop ps)) (n:=ps+1+(l.length-ps)) ?_ rfl ?_
      ·have B4:aK (l.take ps++(⟨xn,xi,xt⟩::l.drop ps))=aK (l.take ps)++[Value.string ⟨xn.toArray⟩,i6 xi,i6 xt]++aK (l.drop ps):=(by rw[da,ft,List.append_assoc];rfl);rw[B4];exact AI
      ·rw[List.length_append,List.length_cons,List.length_take,List.length_drop,Nat.min_eq_left A'];omega
theorem EG (v:Value) (l:List E) (nm:List UInt8) (w:World) (hl:bP w w.heap.size v l) (hs:kP l) (hn:nm.length<1099511627776):
 Calls prog 146 #[v,.string ⟨nm.toArray⟩] w λe w'=>∃u,e=.returned (.tuple #[u,i6 (Et.bj l nm)])/\bP w' w'.heap.size u (Et.cT l nm)/\Bw w w':=by
 obtain⟨A,c,rfl,Av,Aw,hE⟩:=hl.open_;have HL:=ja hl;have HT:=ja (show Et.cT l nm=if Et.bj l nm=0 then l.take (Et.pos l nm)++l.drop (Et.pos l nm+1)else []from rfl)
 clear hl hE;go_enter func146,ntmps146;go_wp2_with fail
 refine(k_ _ l nm w HL.a hs hn).mono ?_;rintro e w2 ⟨i,rfl,hi,b0⟩;have HI:=ja hi;clear hi;by_cases R:Et.bj l nm=0
 ·have Ae:=HI.a (.inl R);have A5:=((Et.ke (Et.gB (Et.dr R).1)).1 (Et.dr R).2.2).1;have Ax:=((Et.dd l).1 (Et.dr R).1).1;subst Ae;rw[if_pos R]at HT;have HZ:=ja R;rw[R];have U:=Nat.le_of_lt A5;obtain⟨ps,AI⟩:=ex (Et.pos l nm);rw[AI]at U A5 HT|-;have Ah:=λW=>Ag (l.length-1) om ((l.length:Int)-1) om W;have Ao:=λW=>qL A l.length c ps om (ps:Int) rfl W;clear AI R HI;(go_wp2_with(at_builtin;refine bT ?_));have AR: (madeCells (Value.agg #[.string ⟨#[]⟩,i6 0,i6 0]).cells ((l.length-1)*3)).size=(l.length-1)*3:=size_madeCells _ _;have I:=(ak.new w2 70 (madeCells (Value.agg #[.string ⟨#[]⟩,i6 0,i6 0]).cells ((l.length-1)*3))).own (base:=w2.heap.size) lh 0 (l.length-1) 3 (by rw[Array.length_toList];exact AR) (Nat.zero_le _) (by rw[aq];omega);rw[Nat.zero_mul,List.take_zero]at I;have Aa: (Value.agg #[.string ⟨#[]⟩,i6 0,i6 0]).cells=#[.string ⟨#[]⟩,i6 0,i6 0]:=rfl;rw[Aa]at I;have o:=(Below.refl w2.heap.size w2).alloc lh (.cells (madeCells #[.string ⟨#[]⟩,i6 0,i6 0] ((l.length-1)*3)) 70);have Ab:=HL.a.below b0;obtain⟨v1,wa,A',J,A6,_⟩:=aE (P:=prog) (ty:=183) underlying183 iy rfl dc I ((bP.take Ab U).ext b0.size o) (de _) (by rw[aq];omega) om o.size;have A0:=o.grown A6 o.size (λj e=>(I.lt j e).1);rw[List.nil_append,Nat.zero_add]at J;refine aN rfl _ _ _ rfl rfl rfl A' ?_;obtain⟨A1,c1,rfl⟩:=bS J;clear A' A6 I o AR Aa Ah Ao;have Ad:=λW=>qU A l.length c (ps+1) A5 ((ps:Int)+1) rfl W;generalize hT: (if c=ps+1 then A else A.map (·.add ((ps+1)*3)))=T at Ad
  have Aq:=ja hT;clear hT;(go_wp2_with(at_builtin;refine bT ?_));have A8:=bP.drop Ab A5;rw[Aq.a]at A8;obtain⟨v3,wc,A2,A4,A7,_⟩:=aE (P:=prog) (ty:=183) underlying183 iy rfl dc J (A8.ext b0.size A0) (de _) (by rw[aq];omega) om A0.size;have Ar:=A0.grown A7 A0.size (λj e=>(J.lt j e).1);refine aN rfl _ _ _ rfl rfl rfl A2 ?_;obtain⟨A3,c3,rfl⟩:=bS A4;clear A2 A7 J A0 A8 Ad;go_wp2;go_ret2;refine⟨.slice A3 (ps+(l.length-(ps+1))) c3,by rw[HZ.a];rfl,?_,b0.trans (Ar.mono b0.size)⟩;rw[HT.a];refine bP.aG (base:=w2.heap.size) (m:=l.take ps++l.drop (ps+1)) (n:=ps+(l.length-(ps+1))) ?_ rfl ?_
  ·rw[da];exact A4
  ·rw[List.length_append,List.length_take,List.length_drop,Nat.min_eq_left U]
 ·rw[if_neg R]at HT;have As: (Et.bj l nm != 0)=true:=bne_iff_ne.2 R;obtain⟨er,A9⟩:=ex (Et.bj l nm);have Au:=ja A9;rw[A9]at As|-;clear R HI A9;go_wp2;go_ret2;exact⟨.slice none 0 0,by rw[Au.a];rfl,by rw[HT.a];exact bw.fp _ _ _,b0⟩
end EtW
namespace EtW
open Go.RowKit Go.ChangeShapes Go.WideShapes Go.ChangeAt Go.Lib
open Et (E)
theorem Bb (l m:List UInt8):dU (l++m)=dU l++dU m:=List.map_append ..
theorem tK (v:Nat) (w:World) (hv:v<9223372036854775808):
 Calls prog 182 #[i6 (v:Int)] w λe w'=>e=.returned (.agg #[i6 1,.int .u64 (v:Int)])/\Bw w w':=by
 go_enter func182,ntmps182;go_wp2;refine bodyPost_ret (v:=.agg #[i6 1,.int .u64 (v:Int)]) (by simp[results,results182,go_sem]) rfl ⟨rfl,?_⟩;exact bh.alloc lh _
theorem pK {ops:Array Oper} {rest:List Oper} {o:Oper} {a:Act} {Q:Exit->Act->World->Prop} {w:World} (hgd:o.guard=none) (sl x:Operand)
 (ho:o.op=.call {callee:=.builtin .append,args:=#[sl,x],argTypes:=#[23,9]})
 {base n:Nat} {v:Value} {xs:List Value} (hs:a.eval sl=v) (hown:w.ownsRow base 5 1 v n xs) (l:List UInt8) (hx:a.eval x=.string ⟨l.toArray⟩)
 (hbytes:n+l.length<=1000000) (hbase:base<=w.heap.size)
 (h:∀v' w',w'.ownsRow base 5 1 v' (n+l.length) (xs++dU l)->w.grownBy w' v.ownBlock->wpList prog ops Q rest (a.put o.dst v') w'):Hid (wpList prog ops Q (o::rest) a w):=by
 obtain⟨i,hi,R,I,J⟩:=info_parts oC;show wpList prog ops Q (o::rest) a w;exact wpList_append_own_string w hgd sl x _ _ ho base 5 i underlying23 underlying9 hi R I J v n xs hs hown ⟨l.toArray⟩ hx (by rw[aq];show n+l.length<=_;omega) (by show n+l.length<=_;omega) hbase (λv' w' U j _=>h v' w' U j)
def eN (y:E):List (Int×Nat):=[(1,y.i.toNat),(1,y.t.toNat),(1,y.n.length)]
theorem Hs {y:E} (h:Et.okB y=true):Pk.nF (eN y)=0/\Pk.packed (eN y)=[UInt8.ofNat y.i.toNat,UInt8.ofNat y.t.toNat,UInt8.ofNat y.n.length]:=by
 obtain⟨⟨I,J⟩,R,U,j⟩:=Et.ib h;have hp:Pk.nF (eN y)=0:=Pk.iM λx hx=>by
  unfold eN at hx;have hw:Pk.nK 1=true:=(by decide);simp only[List.mem_cons,List.not_mem_nil,or_false]at hx;rcases hx with rfl|rfl|rfl
  ·show(if Pk.nK 1 then(if y.i.toNat<256^(1:Int).toNat then 0 else 19)else 1)=0
   rw[hw,if_pos rfl,if_pos (by show y.i.toNat<256;omega)]
  ·show(if Pk.nK 1 then(if y.t.toNat<256^(1:Int).toNat then 0 else 19)else 1)=0
   rw[hw,if_pos rfl,if_pos (by show y.t.toNat<256;omega)]
  ·show(if Pk.nK 1 then(if y.n.length<256^(1:Int).toNat then 0 else 19)else 1)=0
   rw[hw,if_pos rfl,if_pos (by show y.n.length<256;omega)]
 refine⟨hp,?_⟩;unfold Pk.packed;rw[if_pos hp];unfold Pk.bO eN Pk.tZ;simp only[List.flatMap_cons,List.flatMap_nil,List.append_nil];show [UInt8.ofNat (y.i.toNat/256^0),UInt8.ofNat (y.t.toNat/256^0),UInt8.ofNat (y.n.length/256^0)]=_;simp
theorem kI (l:List E) (k:Nat) (hk:k<l.length):Et.enc (l.take (k+1))=Et.enc (l.take k)++Et.jt (Et.at_ l k):=by rw[List.take_succ_eq_append_getElem hk,Et.Fq,Et.ej l k hk]
def A_ (s:List UInt8) (w:World) (e:Ending) (w':World):Prop:=∃u,e=.returned (.tuple #[u,i6 0])/\(Bs w' w'.heap.size u s/\∀b,u.ownBlock=some b->w.heap.size<=b/\b<w'.heap.size)/\Bw w w'
theorem II (v:Value) (l:List E) (w:World) (hl:bP w w.heap.size v l) (hs:kP l) (hm:Et.aV l=true):
 Calls prog 141 #[v] w (A_ (Et.enc l) w):=by
 obtain⟨A,c,rfl,hlc,hcm,hE⟩:=hl.open_;have HL:=ja hl;have HE:=ja hE;have hmi:=(Et.dd l).1 hm;have h30:=hmi.1;have HOK:=ja (λk (hk:k<l.length)=>show Et.okB (Et.at_ l k)=true by rw[Et.ej l k hk];exact hmi.2.1 _ (List.getElem_mem hk));have HSH:=ja (show∀k,k<=l.length->(Et.enc (l.take k)).length<=27*k fromλk=>by
  induction k with
  |zero=>intro _;exact Nat.zero_le _
  |succ k ih=>intro hk;have:=ih om;rw[kI l k om,List.length_append];have h2:=(Et.ib (HOK.a k om)).1.2;show _+((Et.at_ l k).n.length+1+1+1)<=_;omega)
 have HS:=ja hs;clear hmi hE;go_enter func141,ntmps141;go_wp2_with fail
 refine(cP _ l w hl hs).mono ?_;rintro e w1 ⟨rfl,b1⟩;rw[hm];clear hl hs hm;go_wp2;go_loopw [4,14] (λy i wr=>∃k:Nat,k<=l.length/\i=i6 k/\wr.ownsRow w.heap.size 5 1 y (Et.enc (l.take k)).length (dU (Et.enc (l.take k)))/\Bw w wr) (λ_ i _=>l.length-(RowKit.intOf i).toNat)
 case atStart=>exact⟨0,Nat.zero_le _,rfl,World.ownsRow_nil _ _ _ _,b1⟩
 case round=>
  obtain⟨k,hk,rfl,hown,hbr⟩:=hrel;clear b1;by_cases hlt:k<l.length
  ·obtain⟨b,off,rfl,hbB,h0,h1,h2⟩:=(HE.a.below hbr) k hlt;have hok:=HOK.a k hlt;have hen:=kI l k hlt;have hsh:=HSH.a k hk;generalize Et.at_ l k=y at*;have hep:=Hs hok;obtain⟨⟨hn1,hn2⟩,hi1,hi2,ht⟩:=Et.ib hok;obtain⟨yn,yi,yt⟩:=y;dsimp only at h0 h1 h2 hn1 hn2 hi1 hi2 ht;obtain⟨yi,rfl⟩:=Int.eq_ofNat_of_zero_le (by omega:0<=yi);obtain⟨yt,rfl⟩:=Int.eq_ofNat_of_zero_le (by omega:0<=yt);have HEP:=ja hep;have HEN:=ja hen;clear hep hen hok;(go_upto_region 7 with fail);have k4:=ak.new wr 70 #[.string ⟨yn.toArray⟩,i6 (yi:Int),i6 (yt:Int)];have b4:=hbr.alloc hbr.size (.cells #[.string ⟨yn.toArray⟩,i6 (yi:Int),i6 (yt:Int)] 70);replace hown:=hown.alloc (.cells #[.string ⟨yn.toArray⟩,i6 (yi:Int),i6 (yt:Int)] 70);obtain⟨w4,hw4⟩:=ex (wr.alloc (.cells #[.string ⟨yn.toArray⟩,i6 (yi:Int),i6 (yt:Int)] 70));rw[hw4]at k4 b4 hown|-;clear hw4 h0 h1 h2;obtain⟨g4,hg4⟩:=ex wr.heap.size;rw[hg4]at k4|-;clear hg4;have hG0:Bw w4 w4.drew:=bh.drew;obtain⟨L3,hL3⟩:=ex ([UInt8.ofNat ((yi:Int)).toNat,UInt8.ofNat ((yt:Int)).toNat,UInt8.ofNat yn.length]);have HPP:Hid (Pk.nF (eN ⟨yn,(yi:Int),(yt:Int)⟩)=0/\Pk.packed (eN ⟨yn,(yi:Int),(yt:Int)⟩)=L3):=Lib.hid ⟨HEP.a.1,by rw[<-hL3];exact HEP.a.2⟩;have HL3:Hid (L3.length=3):=Lib.hid (by rw[<-hL3];rfl);have HLT:Hid (∀x∈eN ⟨yn,(yi:Int),(yt:Int)⟩,x.2<18446744073709551616):=Lib.hid (by
    intro x hx;unfold eN at hx;simp only[List.mem_cons,List.not_mem_nil,or_false]at hx;rcases hx with rfl|rfl|rfl
    ·show((yi:Int)).toNat<_;omega
    ·show((yt:Int)).toNat<_;omega
    ·show yn.length<_;omega)
   have HEE:Hid (Et.jt ⟨yn,(yi:Int),(yt:Int)⟩=L3++yn):=Lib.hid (by rw[<-hL3];rfl);clear hL3 HEP;refine wp_region_list 17 [(ez (pt g4 1)),(ez (i6 ((yi:Nat):Int))),(ez (.agg #[i6 1,.int .u64 ((yi:Nat):Int)])),(ez (pt g4 2)),(ez (i6 ((yt:Nat):Int))),(ez (.agg #[i6 1,.int .u64 ((yt:Nat):Int)])),(ez (pt g4 0)),(ez (.string ⟨yn.toArray⟩)),(ez (i6 ((yn.length:Nat):Int))),(ez (.agg #[i6 1,.int .u64 ((yn.length:Nat):Int)])),(λu q=>∃g,u=.slice (some ⟨g,0,none⟩) 3 3/\ak q g 200 (bg (eN ⟨yn,(yi:Int),(yt:Int)⟩))/\w4.heap.size<=g),(λu q=>∃A c B,u=.tuple #[.slice A 3 c,i6 0]/\Bs q B (.slice A 3 c) L3/\B<=q.heap.size),(λu q=>∃A c B,u=.tuple #[.slice A 3 c,i6 0]/\Bs q B (.slice A 3 c) L3/\B<=q.heap.size),(λu q=>∃A c B,u=.slice A 3 c/\Bs q B (.slice A 3 c) L3/\B<=q.heap.size),(ez (i6 0)),(λu q=>∃A c B,u=.slice A 3 c/\Bs q B (.slice A 3 c) L3/\B<=q.heap.size),(ez (i6 0))]
    (λq=>Bw w4 q) kj rfl kj ?_ ?_ ?_ ?_
   ·exact hG0
   ·exact⟨ah _,ah _,ah _,ah _,ah _,ah _,ah _,ah _,ah _,ah _,λ_ _ _ ⟨g,h1,h2,h3⟩ hb=>⟨g,h1,h2.ext hb,h3⟩,λ_ _ _ ⟨A,c,B,h1,h2,h3⟩ hb=>⟨A,c,B,h1,h2.ext h3 hb,Nat.le_trans h3 hb.size⟩,λ_ _ _ ⟨A,c,B,h1,h2,h3⟩ hb=>⟨A,c,B,h1,h2.ext h3 hb,Nat.le_trans h3 hb.size⟩,λ_ _ _ ⟨A,c,B,h1,h2,h3⟩ hb=>⟨A,c,B,h1,h2.ext h3 hb,Nat.le_trans h3 hb.size⟩,ah _,λ_ _ _ ⟨A,c,B,h1,h2,h3⟩ hb=>⟨A,c,B,h1,h2.ext h3 hb,Nat.le_trans h3 hb.size⟩,ah _,trivial⟩
   ·refine⟨rz [] [6],rx [0,19] [] λx hG=>((k4.ext hG).cell 1:x.cell? (ae g4 1)=some (i6 ((yi:Nat):Int))),?_,rz [] [6],rx [3,22] [] λx hG=>((k4.ext hG).cell 2:x.cell? (ae g4 2)=some (i6 ((yt:Nat):Int))),?_,rz [] [6],rx [6,25] [] λx hG=>((k4.ext hG).cell 0:x.cell? (ae g4 0)=some (.string ⟨yn.toArray⟩)),rz [7,26] [],?_,?_,?_,?_,?_,?_,?_,rz [14,32] [],trivial⟩
    ·intro a x hG hd hs K hK;have h20:_=_:=hd 1 20 kj;clear hd hs;refine pj ?_;go_simp;exact(tK yi _ om).mono rj
    ·intro a x hG hd hs K hK;have h23:_=_:=hd 4 23 kj;clear hd hs;refine pj ?_;go_simp;exact(tK yt _ om).mono rj
    ·intro a x hG hd hs K hK;have h27:_=_:=hd 8 27 kj;clear hd hs;refine pj ?_;go_simp;exact(tK yn.length _ om).mono rj
    ·intro a x hG hd hs K hK;have h21:_=_:=hd 2 21 kj;have h21o:=aA h21;have h24:_=_:=hd 5 24 kj;have h24o:=aA h24;have h28:_=_:=hd 9 28 kj;have h28o:=aA h28;clear hd hs;refine pj ?_;go_simp;exact hK _ _ ⟨x.heap.size,rfl,ak.new x _ _,hG.size⟩ (hG.alloc hG.size _) (bh.alloc lh _)
    ·intro a x hG hd hs K hK;have h29:=hd 10 29 kj;clear hd hs;refine pj ?_;obtain⟨gn,h29,kn,_⟩:=h29;have hr:ee x (gn+1) (.slice (some ⟨gn,0,none⟩) 3 3) (eN ⟨yn,(yi:Int),(yt:Int)⟩):=kn.fe 0 3 3 2 (by show 0+3*2<=6;decide) lh (by simp[maxLen]);go_simp;refine(ic _ _ _ _ hr kn.lt (by show 3<=100000;omega) HLT.out).mono ?_;rintro e w' ⟨u,rfl,ho,hb⟩;rw[HPP.out.1];rw[HPP.out.2]at ho;obtain⟨A9,c9,rfl⟩:=bS ho;have hbs:Bs w' w'.heap.size (.slice A9 L3.length c9) L3:=Bs.aG ho;rw[HL3.out]at hbs|-;exact hK _ _ ⟨A9,c9,_,rfl,hbs,Nat.le_refl _⟩ (hG.trans (hb.mono hG.size)) hb
    ·intro a x hG hd hs K hK;have h30:=hd 11 30 kj;clear hd hs;refine pj ?_;obtain⟨uu,huu⟩:=ex (a.tmps.getD 30 undef);rw[huu]at h30;go_simp;exact hK _ _ h30 hG bh
    ·intro a x hG hd hs K hK;have h18:=hd 12 18 kj;clear hd hs;refine pj ?_;obtain⟨A9,c9,B9,h18,hb9,hB9⟩:=h18;go_simp;exact hK _ _ ⟨A9,c9,B9,rfl,hb9,hB9⟩ hG bh
    ·intro a x hG hd hs K hK;have h18:=hd 12 18 kj;clear hd hs;refine pj ?_;obtain⟨A9,c9,B9,h18,hb9,hB9⟩:=h18;go_simp;exact hK _ _ rfl hG bh
    ·intro a x hG hd hs K hK;have h31:=hd 13 31 kj;clear hd hs;refine pj ?_;obtain⟨uu,huu⟩:=ex (a.tmps.getD 31 undef);rw[huu]at h31;go_simp;exact hK _ _ h31 hG bh
   ·intro x hG;(iterate 10 rintro _ rfl);rintro v10 hv10 v11 hv11 v12 hv12 v13 hv13 _ rfl v15 hv15 _ rfl;simp only[ap];(try simp only[Exit.then]);obtain⟨A9,c9,B9,rfl,hb9,hB9⟩:=hv15;replace hown:=aD hown hG;have b9:=b4.trans (hG.mono b4.size);have hkx:=k4.ext hG;have hb9':bw x B9 1 (.slice A9 3 c9) 3 (dU L3):=(by have:=hb9;unfold Bs at this;rw[HL3.out]at this;exact this);clear hv10 hv11 hv12 hv13 hG hb9;generalize hen:Et.enc (l.take k)=N at*;clear hen;(go_wp2_with(at_builtin;refine bT ?_));obtain⟨v1,wa,hruna,howna,hgra,_⟩:=aE (P:=prog) (ty:=23) underlying23 oC rfl dc hown hb9' (na L3) (by rw[aq];omega) om b9.size;have hBa:=b9.grown hgra b9.size (λj e=>(hown.lt j e).1);have hka:=hkx.grown hgra (aW hown hkx dc);refine aN rfl _ _ _ rfl rfl rfl hruna ?_;clear hruna hgra hown hb9' hkx b9;have p0:wa.cell? (ae g4 0)=some (.string ⟨yn.toArray⟩):=hka.cell 0;obtain⟨A1,c1,rfl⟩:=bS howna;(go_wp2_with(at_builtin;refine bT ?_));refine pK rfl _ _ rfl rfl howna yn rfl om hBa.size ?_;rintro v2 wb hownb hgrb;have hBb:=hBa.grown hgrb hBa.size (λj e=>(howna.lt j e).1);obtain⟨A2,c2,rfl⟩:=bS hownb;clear hgrb howna p0 hka hBa;go_wp2;go_roundw;case rel=>refine⟨k+1,by omega,by go_num,?_,hBb⟩;rw[HEN.a,HEE.out,List.length_append,List.length_append,HL3.out,Bb,Bb,<-List.append_assoc,<-Nat.add_assoc];exact hownb
    case measure=>simp[RowKit.intOf];omega
  ·obtain rfl:k=l.length:=(by omega);rw[List.take_length]at hown;obtain⟨A2,c2,rfl⟩:=bS hown;go_wp2;go_ret2;exact⟨_,rfl,⟨Bs.aG hown,λb hb=>hown.lt b hb⟩,hbr⟩
end EtW
namespace EtW
open Go.RowKit Go.ChangeShapes Go.WideShapes Go.ChangeAt
open Et (E)
theorem val_one (l:List UInt8) (k:Nat) (h:k<l.length):Pk.val ((l.drop k).take 1)=(l.getD k 0).toNat:=by rw[List.drop_eq_getElem_cons h,List.take_succ_cons,List.take_zero];simp[Pk.val,List.getD,h]
theorem Lw (l:List UInt8) (h:3<=l.length):Pk.mu l [1,1,1]=0/\Pk.dB l [1,1,1]=[(l.getD 0 0).toNat,(l.getD 1 0).toNat,(l.getD 2 0).toNat]:=by
 have e:Pk.mu l [1,1,1]=0:=by unfold Pk.mu;rw[if_pos dc,if_neg (by rw[show Pk.db [1,1,1]=3 from rfl];omega)]
 refine⟨e,?_⟩;unfold Pk.dB;rw[if_pos e];simp only[Pk.dJ,List.drop_drop];rw[<-val_one l 0 om,<-val_one l 1 om,<-val_one l 2 om];rfl
theorem Hy (l:List UInt8) (h:l.length<3):Pk.mu l [1,1,1]=2:=by unfold Pk.mu;rw[if_pos dc,if_pos (by rw[show Pk.db [1,1,1]=3 from rfl];omega)]
theorem FQ {w:World} {B:Nat} {v:Value} {x y z:Nat} (h:Us w B v [x,y,z]):∃bx ox cx,v=.slice (some ⟨bx,ox,none⟩) 3 cx/\3<=cx/\bx<B/\w.cell? (ae bx ox)=some (.int .u64 (x:Int))/\w.cell? (ae bx (ox+1))=some (.int .u64 (y:Int))/\w.cell? (ae bx (ox+2))=some (.int .u64 (z:Int)):=by obtain⟨A,cx,J,R,o,h4,U⟩:=h;obtain⟨bx,ox,rfl,j,I⟩:=U sj;exact⟨bx,ox,cx,J,R,j,I 0 _ rfl,I 1 _ rfl,I 2 _ rfl⟩
theorem Cb (A:Option Addr) (n c k:Nat) (hk:k<=c) (z:Int) (hz:z=k) (W:World):
 (Instr.slice 23 (.slice A n c) none (some (i6 z)) none).run prog W=.ok (.slice A k c) W:=by
 subst hz;rw[run_slice_h _ _ _ _ _ kj .i64 _ om om,Int.toNat_natCast];have hs: (sizeOf (prog.elem 23)).run prog W=.ok 1 W:=kj;rw[hs];simp[Result.andThen,sliced];intro h;cases A<;>simp[Addr.add]
theorem Bs.fwd {w w':World} {B:Nat} {v:Value} {l:List UInt8} (h:Bs w B v l) (hb:Below B w w'):Bs w' B v l:=bw.bU h λ_ hp=>hb.cell hp
def zr (b:List UInt8):Int:=if Et.jz b then 0 else 3
theorem zv (v:Value) (b:List UInt8) (w:World) (hb:Bs w w.heap.size v b):
 Calls prog 180 #[v] w λe w'=>∃u,e=.returned (.tuple #[u,i6 (zr b)])/\bP w' w'.heap.size u (Et.mM b)/\Bw w w':=by
 have HBB:=Lib.hid hb;have HNO:Hid (Et.jz b=false/\Et.mM b=[]->zr b=3):=Lib.hid (λh=>by unfold zr;rw[h.1];rfl);clear hb;go_enter func180,ntmps180;go_wp2;go_loopw [0,4] (λvb vl wr=>∃(l:List E) (r:List UInt8),Hid (Et.fD b l r)/\Hid (kP l)/\l.length<=30/\Hid (Bs wr w.heap.size vb r)/\wr.ownsRow w.heap.size 70 3 vl l.length (aK l)/\Bw w wr) (λvb _ _=>match vb with| .slice _ n _=>n|_=>0)
 case atStart=>exact⟨[],b,Lib.hid (Et.tD b),Lib.hid (λy hy=>absurd hy List.not_mem_nil),Nat.zero_le _,HBB,World.ownsRow_nil _ _ _ _,Below.refl _ _⟩
 case round=>
  obtain⟨l,r,HST,HSH,hl30,HB,hown,hbr⟩:=hrel;obtain⟨A,c,rfl,hrc,hcm,_⟩:=HB.out.open_;obtain⟨A2,c2,rfl⟩:=bS hown;by_cases h0:0<r.length
  ·have HNE:Hid (r≠[]):=Lib.hid (List.length_pos_iff.1 h0);by_cases h3:3<=r.length
   ·(go_wp2_with fail);have b1:=(Below.refl wr.heap.size wr).alloc lh (.cells #[i6 1,i6 1,i6 1] 3);obtain⟨ue,uv⟩:=Lw r h3;refine(nY _ _ _ (wr.heap.size+1) r [1,1,1] (Bs.more (HB.out.ext hbr.size b1) (oa hbr.size)) (Is.lit .i64 wr _ _ [1,1,1] 3 rfl rfl (by simp[maxLen])) sj sj).mono ?_;rintro e w2 ⟨x,rfl,hownu,hb2⟩;rw[ue];rw[uv]at hownu;have c2:=b1.trans (hb2.mono b1.size);have hsx:Us w2 w2.heap.size x _:=Us.aG hownu;have HEO:=Lib.hid (show Et.oO r=⟨(r.drop 3).take (r.getD 2 0).toNat,((r.getD 0 0).toNat:Int),((r.getD 1 0).toNat:Int)⟩from rfl);have HRO:=Lib.hid (show Et.fB r=(r.drop 3).drop (r.getD 2 0).toNat from rfl);have HBD:=Lib.hid (show Et.oK r=decide ((r.drop 3).length<(r.getD 2 0).toNat) by unfold Et.oK;rw[decide_eq_false om,Bool.false_or]);have v0: (r.getD 0 0).toNat<256:=UInt8.toNat_lt _;have v1: (r.getD 1 0).toNat<256:=UInt8.toNat_lt _;have v2: (r.getD 2 0).toNat<256:=UInt8.toNat_lt _;generalize(r.getD 0 0).toNat=V0 at*;generalize(r.getD 1 0).toNat=V1 at*;generalize(r.getD 2 0).toNat=V2 at*;obtain⟨bx,ox,cx,rfl,hcx,hbx,hx0,hx1,hx2⟩:=FQ hsx;have hown2:=aD hown c2;have hbs2:=HB.out.ext hbr.size c2;have d2:=hbr.trans (c2.mono hbr.size);clear hsx hownu uv ue hown c2 b1 hb2;by_cases hm:l.length=30
    ·have HX:=Lib.hid (Et.vM HST.out HNE.out om);have hm': (l.length:Int)=30:=(by omega);clear hm;go_wp2;go_ret2;exact⟨.slice none 0 0,by rw[HNO.out HX.out];rfl,by rw[HX.out.2];exact bw.fp _ _ _,d2⟩
    ·have hm':¬(l.length:Int)=30:=(by omega);have hl29:l.length<30:=(by omega);clear hm;obtain⟨A3,c3,hcut,hb3⟩:=s' hbs2 h3 3 rfl;have HL3:=Lib.hid (show(r.drop 3).length=r.length-3 from List.length_drop);obtain⟨r3,hr3⟩:=ex (r.drop 3);rw[hr3]at hcut hb3 HEO HRO HBD HL3;clear hr3;have hwr:IntKind.i64.wrap (V2:Int)=(V2:Int):=IntWalk.i64_in _ om;by_cases hbd:r3.length<V2
     ·have HX:=Lib.hid (Et.lB HST.out HNE.out (by rw[HBD.out];exact decide_eq_true hbd));have hbd': (r3.length:Int)<(V2:Int):=(by omega);clear hbd;go_wp2;go_ret2;exact⟨.slice none 0 0,by rw[HNO.out HX.out];rfl,by rw[HX.out.2];exact bw.fp _ _ _,d2⟩
     ·have HGOOD:Hid (Et.oK r=false):=Lib.hid (by rw[HBD.out];exact decide_eq_false hbd);have hv2:V2<=r3.length:=(by omega);have hbd':¬(r3.length:Int)<(V2:Int):=(by omega);obtain⟨_,_,hse,hrc3,hcm3,_⟩:=hb3.open_;cases hse;have hhd:=λW=>Cb A3 r3.length c3 V2 om (V2:Int) rfl W;have hbh:=Bs.head hb3 hv2;obtain⟨A4,c4,hcut4,hb4⟩:=s' hb3 hv2 (V2:Int) rfl;have HB4:=Lib.hid hb4;have HBH:=Lib.hid hbh;clear hbd hbs2 hb3 hb4 hbh;(go_upto_region 10 with fail);have hG0:Bw w2 w2.drew:=bh.drew;refine aQ 17 15 [(ez (.slice A2 l.length c2)),(ez (.slice A3 r3.length c3)),(ez (i6 (V2:Int))),(ez (.slice A3 V2 c3)),(ez (.string ⟨(r3.take V2).toArray⟩)),(ez (.slice (some ⟨bx,ox,none⟩) 3 cx)),(ez (pt bx ox)),(ez (.int .u64 (V0:Int))),(ez (i6 (V0:Int))),(ez (.slice (some ⟨bx,ox,none⟩) 3 cx)),(ez (pt bx (ox+1))),(ez (.int .u64 (V1:Int))),(ez (i6 (V1:Int))),(ez (.agg #[.string ⟨(r3.take V2).toArray⟩,i6 (V0:Int),i6 (V1:Int)])),(λu q=>∃g,u=.slice (some ⟨g,0,none⟩) 1 1/\ak q g 70 (aK [⟨r3.take V2,(V0:Int),(V1:Int)⟩])/\w2.heap.size<=g)]
       (λq=>Bw w2 q) kj rfl dc kj kj ?_ ?_ ?_ ?_
      ·exact hG0
      ·exact⟨ah _,ah _,ah _,ah _,ah _,ah _,ah _,ah _,ah _,ah _,ah _,ah _,ah _,ah _,λ_ _ _ ⟨g,h1,h2,h3⟩ hb=>⟨g,h1,h2.ext hb,h3⟩,trivial⟩
      ·refine⟨rz [] [4],rz [] [0],rz [] [7],rx [1,35,2,36] [] λx hG=>hhd x,rx [3,37] [] λx hG=>gR (P:=prog) (HBH.out.ext (Nat.le_of_lt_succ (Nat.lt_succ_of_le d2.size)) hG) 23 9 5 underlying23 underlying5 underlying9,rz [] [5],rz [5,39] [],rx [6,40] [] λx hG=>cl hG hbx hx0,rx [7,41] [] λx hG=>(IntWalk.i64_in _ om:IntKind.i64.wrap (V0:Int)=(V0:Int)),rz [] [5],rz [9,43] [],rx [10,44] [] λx hG=>cl hG hbx hx1,rx [11,45] [] λx hG=>(IntWalk.i64_in _ om:IntKind.i64.wrap (V1:Int)=(V1:Int)),?_,?_,trivial⟩
       ·intro a x hG hd hs K hK;have h38:a.tmps.getD 38 undef=.string ⟨(r3.take V2).toArray⟩:=hd 4 38 kj;have h38o:=aA h38;have h42:a.tmps.getD 42 undef=i6 (V0:Int):=hd 8 42 kj;have h42o:=aA h42;have h46:a.tmps.getD 46 undef=i6 (V1:Int):=hd 12 46 kj;have h46o:=aA h46;clear hd hs;refine pj ?_;go_simp;exact hK _ _ rfl hG bh
       ·intro a x hG hd hs K hK;have h47:_=_:=hd 13 47 kj;have h47o:=aA h47;clear hd hs;refine pj ?_;go_simp;exact hK _ _ ⟨x.heap.size,rfl,ak.new x _ _,hG.size⟩ (hG.alloc hG.size _) (bh.alloc lh _)
      ·intro x hG;(iterate 14 rintro _ rfl);rintro v14 hv14;simp only[ap];rw[show List.range' 15 (17-15)=[15,16]from rfl,wpOps_cons];obtain⟨gn,rfl,kn,hgn⟩:=hv14;have hown3:=aD hown2 hG;have hr:=kn.fe 0 1 1 3 (by show 0+1*3<=3;decide) lh (by simp[maxLen]);rw[List.drop_zero,List.take_of_length_le (show(3:Nat)<=1*3 by decide)]at hr;obtain⟨v',wa,hruna,howna,hgra,_⟩:=aE (P:=prog) (ty:=183) underlying183 iy rfl dc hown3 hr (de _) (by rw[aq];omega) om (Nat.le_trans d2.size hG.size);refine pj ?_;refine c_ 34 48 183 rfl rfl rfl hruna ?_;rw[wpOps_cons];refine pj ?_;obtain⟨A',c',rfl⟩:=bS howna;have hbl2:=(d2.trans (hG.mono d2.size)).grown hgra (Nat.le_trans d2.size hG.size) (λg e=>(hown3.lt g e).1);have HB5:=Lib.hid (Bs.fwd (HB4.out.ext d2.size hG) ((Below.refl w.heap.size x).grown hgra (Nat.le_trans d2.size hG.size) (λg e=>(hown3.lt g e).1)));rw[List.length_drop]at HB5;have HSTEP:=Lib.hid (Et.nt HST.out HNE.out HGOOD.out);rw[HEO.out,HRO.out]at HSTEP;rw[<-da]at howna;have HOW:=Lib.hid howna;have HSN:Hid ((r3.take V2).length<1099511627776):=Lib.hid (oa (List.length_take_le V2 r3));clear hruna howna hgra hown3 hown2 kn hr hG hG0;simp only[Act.put];go_simp;unfold wpOps;simp only[Exit.then];go_wp2;go_roundw;case rel=>
        refine⟨l++[⟨r3.take V2,(V0:Int),(V1:Int)⟩],r3.drop V2,HSTEP,Lib.hid ?_,by rw[List.length_append,List.length_singleton];omega,HB5,by rw[List.length_append,List.length_singleton];exact HOW.out,hbl2⟩;intro y hy;rcases List.mem_append.1 hy with hy|hy
        ·exact HSH.out y hy
        ·rw[List.mem_singleton.1 hy];exact HSN.out
       case measure=>have:=HL3.out;simp;omega
   ·have HX:=Lib.hid (Et.lB HST.out HNE.out (by unfold Et.oK;rw[decide_eq_true om,Bool.true_or]));(go_wp2_with fail);have b1:=(Below.refl wr.heap.size wr).alloc lh (.cells #[i6 1,i6 1,i6 1] 3);have ue:=Hy r om;refine(nY _ _ _ (wr.heap.size+1) r [1,1,1] (Bs.more (HB.out.ext hbr.size b1) (oa hbr.size)) (Is.lit .i64 wr _ _ [1,1,1] 3 rfl rfl (by simp[maxLen])) sj sj).mono ?_;rintro e w2 ⟨x,rfl,hownu,hb2⟩;rw[ue];have c2:=b1.trans (hb2.mono b1.size);have d2:=hbr.trans (c2.mono hbr.size);obtain⟨Ax,cx,rfl⟩:=bS hownu;generalize(Pk.dB r [1,1,1]).length=nx at*;clear hownu ue c2 b1 hb2;go_wp2;go_ret2;exact⟨.slice none 0 0,by rw[HNO.out HX.out];rfl,by rw[HX.out.2];exact bw.fp _ _ _,d2⟩
  ·obtain rfl:r=[]:=List.length_eq_zero_iff.1 om;have HEND:=Lib.hid (Et.yI HST.out);have HL:=Lib.hid (bP.aG hown rfl rfl);clear hown;(go_wp2_with fail);refine(cP _ l wr HL.out HSH.out).mono ?_;rintro e w2 ⟨rfl,b2⟩;have d2:=hbr.trans (b2.mono hbr.size);have HL2:=Lib.hid ((HL.out.below b2).more b2.size);cases hml:Et.aV l with
   |false=>have HX:Hid (Et.jz b=false/\Et.mM b=[]):=Lib.hid (by rw[HEND.out.1,HEND.out.2,hml];exact⟨rfl,rfl⟩);clear hml;go_wp2;go_ret2;exact⟨.slice none 0 0,by rw[HNO.out HX.out];rfl,by rw[HX.out.2];exact bw.fp _ _ _,d2⟩
   |true=>have HX:Hid (zr b=0/\Et.mM b=l):=Lib.hid (by unfold zr;rw[HEND.out.1,HEND.out.2,hml];exact⟨rfl,rfl⟩);clear hml;go_wp2;go_ret2;exact⟨.slice A2 l.length c2,by rw[HX.out.1];rfl,by rw[HX.out.2];exact HL2.out,d2⟩
end EtW
namespace Co
open Go.RowKit
open EtW (bP dx)
open Et (E)
attribute [local go_sem] Oper.semAt_some
structure mB (f:Fi) (L:List E):Prop where
 ty:f.ty=2
 d:f.d=Et.enc L
 v:f.vs.length=Sp.nb f.d.length
 may:Et.aV L=true
theorem AU:∀{L:List E},(∀y∈L,Et.okB y=true)->(Et.enc L).length<=27*L.length
 |[],_=>by simp[Et.enc]
 |y::L,h=>by have J:=AU (L:=L) (λz I=>h z (List.mem_cons_of_mem _ I));have R:=(Et.ib (h y List.mem_cons_self)).1.2;show(Et.jt y++Et.enc L).length<=_;rw[List.length_append,List.length_cons];have U: (Et.jt y).length=3+y.n.length:=(by unfold Et.jt;simp only[List.length_cons];omega);omega
theorem mi {L:List E} (h:Et.aV L=true): (Et.enc L).length<=27*L.length/\L.length<=30:=⟨AU ((Et.dd L).1 h).2.1,((Et.dd L).1 h).1⟩
theorem j8 {L:List E} (h:Et.aV L=true):EtW.kP L:=λy I=>by have:=(Et.ib (((Et.dd L).1 h).2.1 y I)).1.2;omega
theorem mB.len {f:Fi} {L:List E} (h:mB f L):f.d.length<=810:=by have:=mi h.may;rw[h.d];omega
section
variable {w w' w'':World} {c c' c'':C} {fs:List Fi} {f:Fi} {L:List E}
def Seen (w:World) (c:C) (fs:List Fi) (w':World):Prop:=∃c',(∃T,c'={c with av:=T}/\nj c.av T)/\bD w' c' fs/\af (· =c.g) w w'
theorem Seen.below (h:Seen w c fs w') {w'':World} (hb:Bw w' w''):Seen w c fs w'':=by obtain⟨c',I,hC,hS⟩:=h;exact⟨c',I,hC.below hb,hS.trans (af.aj hb) (λ_ e=>.inl e)⟩
theorem Seen.behind {w0:World} (hb:Bw w0 w) (h:Seen w c fs w'):Seen w0 c fs w':=by obtain⟨c',I,hC,hS⟩:=h;exact⟨c',I,hC,(af.aj hb).trans hS (λ_ e=>.inl e)⟩
theorem Seen.store (h:Seen w c fs w') {t:Nat} {ty:TypeId} {l:List Value} (ht:af (· =t) w' w'') (hw:w.heap.size<=t) (h0:c.own t=0) (hb:ak w' t ty l) (hl:Small l) (h1:260≠ty) (hL:Lays c):Seen w c fs w'':=by obtain⟨c',⟨T,rfl,I⟩,hC,hS⟩:=h;exact⟨_,⟨T,rfl,I⟩,hC.AM ht h0 hb hl h1 (by show 9<=c.k.nQ.length;rw[hL.tB];decide),hS.trans ht (λi e=>.inr (by rw[e];exact hw))⟩
theorem Seen.step (h:Seen w c fs w'):∃c',(∃T,c'={c with av:=T}/\nj c.av T)/\bD w' c' fs/\Step w c w' c':=by obtain⟨c',⟨T,rfl,I⟩,hC,hS⟩:=h;exact⟨_,⟨T,rfl,I⟩,hC,⟨hS.mono λb e=>by subst e;rw[show c.own c.g=1 from hC.o1];decide,λ_ _=>rfl⟩⟩
theorem Seen.own (h:Seen w c fs w') {b:Nat} (hb:b<w.heap.size) (h0:c.own b=0):w'.heap[b]? =w.heap[b]? :=by obtain⟨c',⟨T,rfl,J⟩,hC,hS⟩:=h;exact hS.block b hb (λe=>by have I:c.own c.g=1:=hC.o1;rw[<-e,h0]at I;cases I)
theorem Seen.size (h:Seen w c fs w'):w.heap.size<=w'.heap.size:=by obtain⟨_,_,_,hS⟩:=h;exact hS.size
def MX (w:World) (c:C) (fs:List Fi) (L:List E) (e:Ending) (w':World):Prop:=∃u,e=.returned (.tuple #[u,i6 0])/\bP w' w'.heap.size u L/\Seen w c fs w'
theorem oP (h:bD w c fs) (hf:fs[0]? =some f) (hD:mB f L):Calls prog 137 #[pt c.g 0,i6 1] w (MX w c fs L):=by
 have H:=ja h;have HF:=ja hf;have o:=ja hD;clear h hf hD;have A': (prog.info? 41).map (·.size)=some f.x.cells.length:=xM f.x;have R:=dv f.x;go_enter func137,ntmps137;go_wp2_with fail
 refine(lK H.a 0 f HF.a dc 1 rfl).mono ?_;rintro e j ⟨rfl,b1⟩;have U:f.x.val=.agg f.x.cells.toArray:=rfl;rw[U];go_upto_region 2 with(with_reducible refine bE rfl 41 (.tmp 6) (.tmp 14) rfl f.x.cells rfl rfl ?_ rfl A' R ?_)
 ·exact Nat.le_refl 23
 generalize hW:j.alloc (.cells _ 41)=wa;obtain⟨z,hz,ka⟩:∃z:List Value,z.length=23/\ak wa j.heap.size 41 z:=⟨_,rfl,by rw[<-hW];exact ak.new j _ _⟩;have ba:Bw j wa:=by rw[<-hW];exact bh.alloc lh _
 have k2:=ka.setCells f.x.cells 0 (by rw[hz];exact Nat.le_refl 23);rw[ck z f.x.cells (by rw[hz];rfl)]at k2;have b2:=aS ba lh 0 f.x.cells;generalize wa.setCells j.heap.size 0 f.x.cells=w2 at k2 b2|-;obtain⟨g3,A0⟩:=ex j.heap.size;rw[A0]at k2|-;have BB:=ja (b1.trans (b2.mono b1.size));have x0:w2.cell? (ae g3 0)=some (i6 2):=(k2.cell 0).trans (by show some (i6 f.ty)=_;rw[o.a.ty]);obtain⟨n,hn⟩:∃n:Nat,f.d.length=n:=⟨_,rfl⟩;have x3:w2.cell? (ae g3 3)=some (i6 (n:Int)):=(k2.cell 3).trans (by show some (i6 (f.d.length:Int))=_;rw[hn]);have A2:n<=810:=by rw[<-hn];exact o.a.len
 clear hW hz ka ba A' R U b1 b2 k2 A0;generalize Value.agg f.x.cells.toArray=xv;go_wp2_with fail
 refine(uR (H.a.below BB.a) 0 f HF.a dc 1 rfl o.a.v (by rw[hn];omega) n (by rw[hn];exact Nat.le_refl _) om).mono ?_;rintro e w3 ⟨u,c',rfl,I,hT,hC,hS⟩;have HX:=ja (show Seen w c fs w3 from Seen.behind BB.a ⟨c',hT,hC,hS⟩);have hb:Bs w3 w3.heap.size u f.d:=bw.aG I;have HB:=ja hb;obtain⟨A,k,rfl⟩:=dZ I;clear x0 x3 I hT hC hS hb;go_wp2_with fail
 have J:=EtW.zv _ f.d w3 HB.a;rw[hn]at J;refine J.mono ?_;clear J;rintro e w4 ⟨u4,rfl,hE,b4⟩;have hk:EtW.zr f.d=0/\Et.mM f.d=L:=by have:=Et.EZ o.a.may;rw[o.a.d];exact⟨by unfold EtW.zr;rw[this.1];rfl,this.2⟩
 rw[hk.1];rw[hk.2]at hE;have HE:=ja hE;have HY:=ja (HX.a.below b4);obtain⟨A4,k4,A1,_⟩:=hE.open_;clear hE b4 hk;subst A1;go_wp2;go_ret2;exact⟨_,rfl,HE.a,HY.a⟩
def MH (w:World) (c:C) (fs:List Fi) (L:List E) (nm:List UInt8) (e:Ending) (w':World):Prop:=e=.returned (.tuple #[dx (Et.dN L nm),i6 (Et.bj L nm)])/\Seen w c fs w'
theorem mE (h:bD w c fs) (hL:Lays c) (hf:fs[0]? =some f) (hD:mB f L) (nm:List UInt8) (hn:nm.length<=100000):Calls prog 85 #[pt c.g 0,i6 1,.string ⟨nm.toArray⟩] w (MH w c fs L nm):=by
 have H:=ja h;have HF:=ja hf;have HD:=ja hD;have HL:=ja hL;clear h hf hD hL;obtain⟨S,hS⟩:=ex (⟨nm.toArray⟩:ByteArray);rw[hS];have HS:=ja hS;clear hS;go_enter func85,ntmps85;go_upto_region 1 with fail
 generalize J:w.alloc (.cells _ 70)=w0;have R:ak w0 w.heap.size 70 [.string ⟨#[]⟩,i6 0,i6 0]:=by rw[<-J];exact ak.new w _ _
 have b0:Bw w w0:=by rw[<-J];exact bh.alloc lh _
 clear J;obtain⟨g,U⟩:=ex w.heap.size;rw[U]at R|-;have HO:=ja (show c.own g=0 from H.a.hi g om);have K:=ja R;have B:=ja b0;have HG:=ja U;clear R b0 U;go_wp2_with fail
 refine(oP (H.a.below B.a) HF.a HD.a).mono ?_;rintro e w1 ⟨u,rfl,j,hX⟩;obtain⟨A,k,rfl,_⟩:=j.open_;have HE:=ja j;have HX:=ja hX;clear j hX;go_wp2_with fail
 rw[<-HS.a];refine(EtW.cN _ L nm w1 HE.a (j8 HD.a.may) om).mono ?_;rintro e w2 ⟨rfl,o⟩;have k2:=(show ak w1 g _ _ from(HX.a.own K.a.lt HO.a).trans K.a).ext o;have HY:=ja ((HX.a.below o).behind B.a);have K2:=ja k2;have c0:=k2.cell 0;have c1:=k2.cell 1;have c2:=k2.cell 2;have f0:=k2.frozen;have A':=ja (show w.heap.size<=g by have:=HG.a;omega);clear o k2;unfold dx;obtain⟨er,I⟩:=ex (Et.bj L nm);obtain⟨y,hy⟩:=ex (Et.dN L nm);have A0:=ja I;have A1:=ja hy;rw[I,hy];clear I hy;go_wp2;have z4:=((K2.a.aC 0 (.string ⟨y.n.toArray⟩)).aC 1 (i6 y.i)).aC 2 (i6 y.t);have tz:=((af.setCell w2 g 0 (.string ⟨y.n.toArray⟩)).trans (af.setCell _ g 1 (i6 y.i)) (λ_ e=>.inl e)).trans (af.setCell _ g 2 (i6 y.t)) (λ_ e=>.inl e);refine bodyPost_ret (v:=.tuple #[dx y,i6 er]) (bG [.string ⟨y.n.toArray⟩,i6 y.i,i6 y.t] _ results85 rfl z4.range underlying70 rfl kj rfl) rfl ?_;exact⟨by rw[A1.a,A0.a],HY.a.store tz A'.a HO.a K2.a (Small.of dc rfl) dc HL.a⟩
end
end Co
end Go.Proofs.YtdhgejiacehpbaaGreatDoor
