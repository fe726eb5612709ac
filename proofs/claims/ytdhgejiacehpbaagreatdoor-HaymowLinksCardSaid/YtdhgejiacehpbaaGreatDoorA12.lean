import Derived.Test.YtdhgejiacehpbaaGreatDoorA11
set_option maxRecDepth 100000
set_option maxHeartbeats 16000000
set_option linter.all false
namespace Go.Proofs.YtdhgejiacehpbaaGreatDoor
open Go.Proofs.Tryz
namespace Co
open Go.RowKit
open Ad (dP box four)
attribute [local go_sem] Oper.semAt_some
def dW (n:Nat):List Value:=i6 (n:Int)::List.replicate 47 zi
theorem qF (n:Nat): (dW n).length=48:=rfl
theorem GN: (prog.info? 308).map (λi=>(i.zero,i.size,i.bytes))=some (some (.agg #[zi,zi]),2,16):=by kernel_rfl
theorem pX {w:World} {B n c:Nat} {A:Option Addr} {xs:List Value} (h:bw w B 1 (.slice A n c) n xs) (j:Nat) (v:Value) (hj:xs[j]? =some v):∃b off,A=some ⟨b,off,none⟩/\w.cell? (ae b (off+j))=some v:=by
 obtain⟨o,c',e,_,_,h4,J⟩:=h;injection e with R e2 e3;have hl:j<xs.length:=by
  rcases Nat.lt_or_ge j xs.length with h|h
  ·exact h
  ·rw[List.getElem?_eq_none h]at hj;cases hj
 obtain⟨b,off,U,hb,I⟩:=J om;exact⟨b,off,by rw[R,U],I j v hj⟩
def NL (w:World) (n:Nat) (e:Ending) (w':World):Prop:=∃g,e=.returned (.tuple #[.slice (some ⟨g,0,none⟩) 24 24,i6 0])/\ak w' g 308 (dW n)/\w.heap.size<=g/\Bw w w'
section
variable {w:World}
theorem BI (ls:List Nat) (ha:∀a∈ls,1<=a/\a<=16) (hnd:ls.Nodup) (hl:ls.length<=100) (v1 v2:Value) (h1:Is .i64 w w.heap.size v1 (ls.map λa:Nat=>(a:Int))) (h2:Is .i64 w w.heap.size v2 (List.replicate ls.length 0)):
 Calls prog 157 #[dP,v1,v2] w (NL w ls.length):=by
 obtain⟨A1,c1,rfl,Ar,E5,BQ⟩:=h1.open_;obtain⟨A2,c2,rfl,As,E6,A6⟩:=h2.open_;rw[List.length_map]at Ar|-;rw[List.length_replicate]at As|-;have HA:=jb ha hnd;have H1:=ja h1;have H2:=ja h2;have E7:=@run_makeMap prog;obtain⟨AR,Au,Bg⟩:∃AR:Array Value,AR.toList=dW 0/\∀W:World,(Instr.makeSlice 108 (i6 24) (i6 24)).run prog W=.ok (.slice (some ⟨W.heap.size,0,none⟩) 24 24) (W.alloc (.cells AR 308)):=⟨_,by kernel_rfl,run_mk (P:=prog) underlying108 GN 24 24 lh dc dc⟩;have Bt:=ja Au;clear Au;obtain⟨n,hn⟩:=ex ls.length;have J:=ja hn;rw[hn]at hl Ar As|-;clear ha hnd h1 h2 BQ A6 hn;unfold dP;go_enter func157,ntmps157;go_upto_region 1 with fail
 obtain⟨k0,b0⟩:=box w;generalize w.alloc (.cells #[i6 20,i6 2,i6 1,i6 4] 60)=w0 at*;obtain⟨g,hg⟩:=ex w.heap.size;rw[hg]at k0|-;have HG:=ja hg;have K0:=ja k0;have B0:=ja b0;obtain⟨z0,z1,z2,z3⟩:=four k0;clear k0 b0 hg;go_wp2_with fail
 refine(Ad.cP w0).mono ?_;rintro e w1 ⟨rfl,b1⟩;have B1:=ja (B0.a.trans (b1.mono B0.a.size));have K1:=ja (K0.a.ext b1);clear z0 z1 z2 z3 b1;go_wp2;go_loopw [9,32] (λ_ u wr=>∃j:Nat,j<=n/\u=i6 (j:Int)/\wr=w1) (λ_ u _=>n-(RowKit.intOf u).toNat)
 case atStart=>exact⟨0,Nat.zero_le _,rfl,rfl⟩
 case round=>
  obtain⟨j,hj,rfl,rfl⟩:=hrel;by_cases Bu:j<n
  ·have R:=H2.a.below B1.a;rw[List.length_replicate,J.a]at R;obtain⟨b,off,rfl,hx⟩:=pX R j (i6 0) (by rw[List.getElem?_map,List.getElem?_replicate,if_pos Bu];rfl);clear R;go_wp2;go_roundw;case rel=>exact⟨j+1,by omega,by simp,trivial⟩
   case measure=>simp[RowKit.intOf];omega
  ·obtain rfl:j=n:=(by omega);go_wp2;(go_loopw [11,45] (λ_ u wq=>∃k:Nat,k<=j/\u=i6 (k:Int)/\Bw w wq/\ak wq g 60 [i6 20,i6 2,i6 1,i6 4]) (λ_ u _=>j-(RowKit.intOf u).toNat));case atStart=>exact⟨0,Nat.zero_le _,rfl,B1.a,K1.a⟩
   case round=>
    obtain⟨k,hk,rfl,hb,Aa⟩:=hrel;have U:=jb hb Aa;obtain⟨z0,z1,z2,z3⟩:=four Aa;clear hb Aa;by_cases A7:k<j
    ·have o:=H1.a.below U.a;rw[List.length_map,J.a]at o;obtain⟨b,off,rfl,hx⟩:=pX o k (i6 ((ls[k]'(by rw[J.a];exact A7):Nat):Int)) (by rw[List.getElem?_map,List.getElem?_map,List.getElem?_eq_getElem (by rw[J.a];exact A7)];rfl);have A3:ls[k]'(by rw[J.a];exact A7)∈ls:=List.getElem_mem _;have By:=HA.a _ A3;generalize ls[k]'(by rw[J.a];exact A7)=a at*;have hdiv: ((a:Int)-1)/16=0:=(by omega);clear o A3;(go_wp2_with fail);refine(Ad.jI wr a 0 om om hdiv).mono ?_;rintro e w3 ⟨rfl,b3⟩;have B3:=Lib.hid (⟨U.a.trans (b3.mono U.a.size),U.b.ext b3⟩:_/\_);clear b3 z0 z1 z2 z3;rw[show Ad.lC 0=0 from rfl];go_wp2;go_roundw;case rel=>exact⟨k+1,by omega,by simp,B3.out⟩
     case measure=>simp[RowKit.intOf];omega
    ·obtain rfl:k=j:=(by omega);(go_wp2_with fail);refine(Ad.eM wr).mono ?_;rintro e w3 ⟨rfl,b3⟩;have B3:=Lib.hid (U.a.trans (b3.mono U.a.size));have K3:=ja (U.b.ext b3);clear z0 z1 z2 z3 b3;(go_upto_region 17 with fail);have k4:=ak.new w3 308 AR;have b4:=(Below.refl w3.heap.size w3).alloc lh (.cells AR 308);have s4: (w3.alloc (.cells AR 308)).heap.size=w3.heap.size+1:=(by simp);rw[Bt.a]at k4;generalize w3.alloc (.cells AR 308)=w4 at*;have m5:=ay.made w4 prog 3;have b5:=(Below.refl w4.heap.size w4).alloc lh (.map #[] 0);generalize w4.alloc (.map #[] 0)=w5 at*;obtain⟨q,hq⟩:=ex w3.heap.size;rw[hq]at k4 s4|-;rw[s4]at m5;have K5:=ja (k4.ext b5);have M5:=ja m5;have B5:=ja ((B3.out.trans (b4.mono B3.out.size)).trans (b5.mono (Nat.le_trans B3.out.size b4.size)));have G5:=ja ((K3.a.ext b4).ext b5);have HQ:=ja (show w.heap.size<=q/\g<q by have:=B3.out.size;have:=K3.a.lt;omega);clear k4 b4 s4 m5 b5 hq Bg;go_wp2;(go_loopw [14,15,16,17,18,19,60] (λ_ _ _ _ _ _ u wq=>∃(i:Nat) (l:KV),i<=k/\u=i6 (i:Int)/\ay wq prog 3 (q+1) l/\l.length<=i/\(∀a:Nat,a∉ls.take i->bK l (a:Int)=none)/\ak wq q 308 (dW i)/\Bw w wq/\ak wq g 60 [i6 20,i6 2,i6 1,i6 4]) (λ_ _ _ _ _ _ u _=>k-(RowKit.intOf u).toNat));case atStart=>exact⟨0,[],Nat.zero_le _,rfl,M5.a,Nat.le_refl _,λ_ _=>rfl,K5.a,B5.a,G5.a⟩
     case round=>
      obtain⟨i,l,hi,rfl,hm,E8,Av,Aw,hb,Ax⟩:=hrel;have HR:=je hm Av Aw hb Ax;clear hm Av Aw hb Ax;by_cases I:i<k
      ·have o:=H1.a.below HR.d;rw[List.length_map,J.a]at o;obtain⟨b,off,rfl,hx⟩:=pX o i (i6 ((ls[i]'(by rw[J.a];exact I):Nat):Int)) (by rw[List.getElem?_map,List.getElem?_map,List.getElem?_eq_getElem (by rw[J.a];exact I)];rfl);have A3:ls[i]'(by rw[J.a];exact I)∈ls:=List.getElem_mem _;have By:=HA.a _ A3;have Ab:ls[i]'(by rw[J.a];exact I)∉ls.take i:=(by intro B';obtain⟨j',C4,e⟩:=List.getElem_of_mem B';rw[List.getElem_take]at e;have:=(List.getElem_inj HA.b).1 e;rw[List.length_take]at C4;omega);have B2:ls.take (i+1)=ls.take i++[ls[i]'(by rw[J.a];exact I)]:=List.take_succ_eq_append_getElem (by rw[J.a];exact I);have CC:=ja B2;clear B2;generalize ls[i]'(by rw[J.a];exact I)=a at*;have hdiv: ((a:Int)-1)/16=0:=(by omega);have Ae:=HR.a.gw az underlying101 (oI wr) (a:Int) (cC _ om om);rw[HR.b a Ab]at Ae;simp only[Option.getD_none,Option.isSome_none]at Ae;obtain⟨z0,z1,z2,z3⟩:=four HR.e;clear o A3;(go_upto_region 23 with fail);obtain⟨w6,Ah⟩:=ex (wr.alloc (.cells #[] 208));have b6:Bw wr w6:=(by rw[<-Ah];exact bh.alloc lh _);rw[Ah];obtain⟨w7,D5,m7,t7⟩:=ay.store (HR.a.ext b6) az underlying101 (by rw[aq];omega) (a:Int) (cC _ om om) (.agg #[]);have T7:=af.bt (X:=(· =q+1)) t7.grown λg e=>(Option.some.inj e).symm;have B4: (dk l (a:Int) (.agg #[])).length<=i+1:=by
        unfold dk bf;have B6:∀(y:Int×Value) (q:KV),(dO y q).length=q.length+1:=by
         intro y q;induction q with
         |nil=>rfl
         |cons z r ih=>unfold dO;split<;>simp[ih]
        rw[B6];have:=List.length_filter_le (λy:Int×Value=> !decide (y.1=(a:Int))) l;omega
       have M7:=jb m7 B4;have Cd:=HQ.a;have B7:=ja ((HR.d.trans (b6.mono HR.d.size)).grown t7.grown (Nat.le_trans HR.d.size b6.size) (λj e=>by obtain rfl:q+1=j:=Option.some.inj e;omega));have K7:=ja (T7.blk (HR.c.ext b6) (λe=>by have e':q=q+1:=e;omega));have G7:=ja (T7.blk (HR.e.ext b6) (λe=>by have e':g=q+1:=e;omega));have E9:=ja Ab;have HX:=ja hx;clear Ae z0 z1 z2 z3 b6 m7 t7 T7 B4 Ah hx Ab Cd;obtain⟨z0,z1,z2,z3⟩:=four G7.a;(go_wp2_with fail);refine(Ad.eB w7 (a:Int) om om).mono ?_;rintro e w8 ⟨rfl,b8⟩;rw[hdiv];have K8:=ja (K7.a.ext b8);have M8:=ja (M7.a.ext b8);have G8:=ja (G7.a.ext b8);have B8:=ja (B7.a.trans (b8.mono B7.a.size));clear z0 z1 z2 z3 b8;have u0:w8.cell? (ae q 0)=some (i6 (i:Int)):=K8.a.cell 0;have v0:=K8.a.frozen 0;(go_upto_region 28 with fail);have k9:=K8.a.aC 0 (i6 ((i:Int)+1));have b9:=B8.a.setCell (p:=ae q 0) HQ.a.1 (i6 ((i:Int)+1));have m9:=M8.a.setCell (a:=ae q 0) (by show q+1≠q;omega) (i6 ((i:Int)+1));have g9:=G8.a.cf (p:=ae q 0) (by show g≠q;have:=HQ.a;omega) (i6 ((i:Int)+1));generalize w8.setCell (ae q 0) (i6 ((i:Int)+1))=w9 at*;have R:=H2.a.below b9;rw[List.length_replicate,J.a]at R;obtain⟨b2,o2,rfl,A6⟩:=pX R i (i6 0) (by rw[List.getElem?_map,List.getElem?_replicate,if_pos I];rfl);have y1:w9.cell? (ae q 1)=some (i6 0):=k9.cell 1;have f1:=k9.frozen 1;have H9:=jd k9 b9 m9 g9;clear k9 b9 m9 g9 R u0 v0;have AI:w9.drew.cell? (ae b2 (o2+i))=some (i6 0):=A6;have B9:w9.drew.cell? (ae q 1)=some (i6 0):=y1;have Co:w9.drew.frozen? (ae q 1)=false:=f1;refine dF 15 [.slice (some ⟨q,0,none⟩) 24 24,i6 0,.slice (some ⟨q,0,none⟩) 24 24,i6 0,pt q 0,pt q 1,i6 0,.slice (some ⟨b2,o2,none⟩) k c2,i6 (i:Int),pt b2 (o2+i),i6 0,i6 0,pt q 0,pt q 1,undef] (λf_ q_=>q_=cond (f_ 14) (w9.drew.setCell (ae q 1) (i6 0)) (w9.drew)) kj rfl kj rfl ?_ ?_
       ·refine⟨cz [] [12],cz [] [18],cz [] [12],cz [] [18],cz [2,94,3,95] [],cz [4,96] [],?_,cz [] [2],cz [] [14],cz [7,99,8,100] [],?_,cz [6,98,10,102] [],cz [0,92,1,93] [],cz [12,104] [],?_,trivial⟩
        ·intro f a x A4 A5 A' hG hd hs K hK;have n6:f 6=false:=A4;have A0:f 14=false:=A'.no 14 6 98 n6 kj;have hx:=hG;rw[A0]at hx;simp only[cond_true,cond_false]at hx;have EC:_=_:=hd 5 97 kj;clear hd hs A5 A';have Ao:=ja hx;clear hx;have A8:=ja hG;clear hG;refine pj ?_;have c1:x.cell? (ae q 1)=some (i6 0):=(by rw[Ao.a];exact B9);go_simp;exact hK _ _ rfl A8.a
        ·intro f a x A4 A5 A' hG hd hs K hK;have D0:f 10=false:=A4;have A0:f 14=false:=A'.no 14 10 102 D0 kj;have hx:=hG;rw[A0]at hx;simp only[cond_true,cond_false]at hx;have Dv:_=_:=hd 9 101 kj;clear hd hs A5 A';have Ao:=ja hx;clear hx;have A8:=ja hG;clear hG;refine pj ?_;have c1:x.cell? (ae b2 (o2+i))=some (i6 0):=(by rw[Ao.a];exact AI);go_simp;exact hK _ _ rfl A8.a
        ·intro f a x A4 A5 A' hG hd hs K hK;have A0:f 14=false:=A4;have hx:=hG;rw[A0]at hx;simp only[cond_true,cond_false]at hx;have E1:_=_:=hd 13 105 kj;have E4:_=_:=hd 11 103 kj;clear hd hs A5 A';have hN: (w9.drew.setCell (ae q 1) (i6 0))=cond (decide (14=14)||f 14) (w9.drew.setCell (ae q 1) (i6 0)) (w9.drew):=(by simp only[Nat.reduceEqDiff,decide_true,decide_false,Bool.false_or,Bool.true_or,A0,cond_true,cond_false]);subst hx;have A8:=ja hG;clear hG;have D3:=ja hN;clear hN;refine pj ?_;go_simp;exact hK _ _ rfl D3.a
       ·intro x hG;replace hG:x=w9.drew.setCell (ae q 1) (i6 0):=hG;subst hG;(iterate 14 rintro _ rfl);simp only[ap];(try simp only[Exit.then]);have dS:=(H9.a.drew).aC 1 (i6 0);have BB:=(H9.b.drew).setCell (p:=ae q 1) HQ.a.1 (i6 0);have BO:=(H9.c.drew).setCell (a:=ae q 1) (by show q+1≠q;omega) (i6 0);have g10:=(H9.d.drew).cf (p:=ae q 1) (by show g≠q;have:=HQ.a;omega) (i6 0);generalize w9.drew.setCell (ae q 1) (i6 0)=w10 at*;have A9:=jd dS BB BO g10;clear dS BB BO g10 AI B9 Co A6 y1 f1;go_wp2;go_roundw;case rel=>refine⟨i+1,_,by omega,by simp,A9.c,M7.b,λa' Aq=>?_,A9.a,A9.b,A9.d⟩;rw[CC.a]at Aq;have h1:a'∉ls.take i:=λh=>Aq (List.mem_append_left _ h);have h2:a'≠a:=λh=>Aq (List.mem_append_right _ (List.mem_singleton.2 h));rw[fW,if_neg (λe=>h2 om)];exact HR.b a' h1
        case measure=>simp[RowKit.intOf];omega
      ·obtain rfl:i=k:=(by omega);go_wp2;go_ret2;exact⟨q,rfl,HR.c,HQ.a.1,HR.d⟩
end
end Co
namespace Co
open Go.RowKit
attribute [local go_sem] Oper.semAt_some
structure yN (w:World) (base b1 b2:Nat) (v1 v2:Value) (l1 l2:List Int):Prop where
 k1:ak w b1 50 [v1]
 k2:ak w b2 50 [v2]
 o1:w.ownsRow base 3 1 v1 l1.length (ints l1)
 o2:w.ownsRow base 3 1 v2 l2.length (ints l2)
 ne:∀b,v1.ownBlock=some b->v2.ownBlock≠some b
 nb:b1≠b2
 f1:base<=b1
 f2:base<=b2
 gM:l1.length<=100/\l2.length<=100
section
variable {w w':World} {base b1 b2:Nat} {v1 v2:Value} {l1 l2:List Int}
theorem yN.below (h:yN w base b1 b2 v1 v2 l1 l2) (hb:Bw w w'):yN w' base b1 b2 v1 v2 l1 l2:=⟨h.k1.ext hb,h.k2.ext hb,aD h.o1 hb,aD h.o2 hb,h.ne,h.nb,h.f1,h.f2,h.gM⟩
def MG (w:World) (base i:Nat):Prop:=base<=i/\∃c t fz,w.heap[i]? =some (.cells c t fz)
theorem zB {sz n:Nat} {e:TypeId} {v:Value} {xs:List Value} (h:w.ownsRow base e sz v n xs) {b:Nat} (hb:v.ownBlock=some b):MG w base b:=by
 rcases h.2 with⟨rfl,_⟩|⟨I,cap,cur,rfl,J,R,_⟩
 ·cases hb
 ·obtain rfl:I=b:=(by injection hb);exact⟨J,_,_,_,R⟩
def JN (w:World) (base b1 b2:Nat) (l1 l2:List Int) (e:Ending) (w':World):Prop:=e=.returned (.tuple #[])/\∃v1' v2',yN w' base b1 b2 v1' v2' l1 l2/\af (MG w base) w w'
theorem uD: (prog.info? 3).map (λi=>(i.zero,i.size,i.bytes))=some (some (i6 0),1,8):=by kernel_rfl
theorem Hr (h:yN w base b1 b2 v1 v2 l1 l2) (hbs:base<=w.heap.size) (s:Value) (t:Int):
 Calls prog 156 #[.agg #[i6 0,s],i6 t,pt b1 0,pt b2 0] w (JN w base b1 b2 l1 l2):=by
 have H:=ja h;clear h;go_enter func156,ntmps156;go_wp2;go_end0;have I:=(Below.refl w.heap.size w).alloc lh (.cells #[i6 0,s] 38);exact⟨rfl,v1,v2,H.a.below I,af.aj I⟩
def tI (B base:Nat) (v:Value) (l:List Int) (z:Int) (u:Value) (q:World):Prop:=q.ownsRow base 3 1 u (l.length+1) (ints l++[i6 z])/\(∀p,u.ownBlock=some p->v.ownBlock=some p\/B<=p)
structure Gc (w:World) (base b1 b2:Nat) (v1 v2:Value) (l1 l2:List Int) (z1 z2:Int) (c4 c8 c9 c10:Bool) (q:World):Prop where
 turn:af (λb=>v1.ownBlock=some b\/v2.ownBlock=some b\/b=b1\/b=b2) w q
 r1:c4=false->q.ownsRow base 3 1 v1 l1.length (ints l1)
 r2:c8=false->q.ownsRow base 3 1 v2 l2.length (ints l2)
 s1:c9=false->ak q b1 50 [v1]
 s2:c10=false->ak q b2 50 [v2]
 t1:c9=true->∃u,ak q b1 50 [u]/\tI w.heap.size base v1 l1 z1 u q
 t2:c10=true->∃u,ak q b2 50 [u]/\tI w.heap.size base v2 l2 z2 u q
section
variable {z1 z2:Int} {c4 c8 c9 c10:Bool} {q q':World}
structure Ha (w:World) (b1 b2:Nat) (v1 v2:Value):Prop where
 l1:b1<w.heap.size
 l2:b2<w.heap.size
 nb:b1≠b2
 p1:∀b,v1.ownBlock=some b->b<w.heap.size/\b≠b1/\b≠b2/\v2.ownBlock≠some b
 p2:∀b,v2.ownBlock=some b->b<w.heap.size/\b≠b1/\b≠b2
theorem tI.turn {B base:Nat} {v:Value} {l:List Int} {z:Int} {u:Value} {Y:Nat->Prop} (h:tI B base v l z u q) (ht:af Y q q') (h1:∀b,v.ownBlock=some b->¬Y b) (h2:∀b,B<=b->¬Y b):tI B base v l z u q':=⟨Dv.aJ h.1 ht λb I=>(h.2 b I).elim (h1 b) (h2 b),h.2⟩
theorem Gc.step (h:Gc w base b1 b2 v1 v2 l1 l2 z1 z2 c4 c8 c9 c10 q) {Y:Nat->Prop} (ht:af Y q q') (hY:∀b,¬Y b):Gc w base b1 b2 v1 v2 l1 l2 z1 z2 c4 c8 c9 c10 q' where
 turn:=h.turn.trans ht λb I=>absurd I (hY b)
 r1:=λe=>Dv.aJ (h.r1 e) ht λb _=>hY b
 r2:=λe=>Dv.aJ (h.r2 e) ht λb _=>hY b
 s1:=λe=>ht.blk (h.s1 e) (hY _)
 s2:=λe=>ht.blk (h.s2 e) (hY _)
 t1:=λe=>let⟨u,k1,k2⟩:=h.t1 e;⟨u,ht.blk k1 (hY _),k2.turn ht (λb _=>hY b) λb _=>hY b⟩
 t2:=λe=>let⟨u,k1,k2⟩:=h.t2 e;⟨u,ht.blk k1 (hY _),k2.turn ht (λb _=>hY b) λb _=>hY b⟩
theorem Gc.N0 (h:Gc w base b1 b2 v1 v2 l1 l2 z1 z2 false false false false q) (A:Ha w b1 b2 v1 v2) (ht:af (λb=>v1.ownBlock=some b) q q'):Gc w base b1 b2 v1 v2 l1 l2 z1 z2 true false false false q' where
 turn:=h.turn.trans ht λb I=>.inl (.inl I)
 r1:=λe=>by cases e
 r2:=λe=>Dv.aJ (h.r2 e) ht λb I e=>(A.p1 b e).2.2.2 I
 s1:=λe=>ht.blk (h.s1 e) λe=>(A.p1 _ e).2.1 rfl
 s2:=λe=>ht.blk (h.s2 e) λe=>(A.p1 _ e).2.2.1 rfl
 t1:=λe=>by cases e
 t2:=λe=>by cases e
theorem Gc.NX (h:Gc w base b1 b2 v1 v2 l1 l2 z1 z2 true false false false q) (A:Ha w b1 b2 v1 v2) (ht:af (λb=>v2.ownBlock=some b) q q'):Gc w base b1 b2 v1 v2 l1 l2 z1 z2 true true false false q' where
 turn:=h.turn.trans ht λb I=>.inl (.inr (.inl I))
 r1:=λe=>by cases e
 r2:=λe=>by cases e
 s1:=λe=>ht.blk (h.s1 e) λe=>(A.p2 _ e).2.1 rfl
 s2:=λe=>ht.blk (h.s2 e) λe=>(A.p2 _ e).2.2 rfl
 t1:=λe=>by cases e
 t2:=λe=>by cases e
theorem Gc.Ob (h:Gc w base b1 b2 v1 v2 l1 l2 z1 z2 true true false c10 q) (A:Ha w b1 b2 v1 v2) {u:Value} (hu:tI w.heap.size base v1 l1 z1 u q):Gc w base b1 b2 v1 v2 l1 l2 z1 z2 true true true c10 (q.setCell (ae b1 0) u):=by
 have J:=Co.af.setCell q b1 0 u;have U:∀b,v1.ownBlock=some b->¬b=b1:=λb I=>(A.p1 b I).2.1;have j:∀b,v2.ownBlock=some b->¬b=b1:=λb I=>(A.p2 b I).2.1;have R:∀b,w.heap.size<=b->¬b=b1:=λb I e=>by have:=A.l1;omega
 exact{
  turn:=h.turn.trans J λb I=>.inl (.inr (.inr (.inl I)))
  r1:=λe=>by cases e
  r2:=λe=>by cases e
  s1:=λe=>by cases e
  s2:=λe=>J.blk (h.s2 e) λe=>A.nb e.symm
  t1:=λ_=>⟨u,(h.s1 rfl).aC 0 u,hu.turn J U R⟩
  t2:=λe=>let⟨y,k1,k2⟩:=h.t2 e;⟨y,J.blk k1 (λe=>A.nb e.symm),k2.turn J j R⟩}
theorem Gc.NP (h:Gc w base b1 b2 v1 v2 l1 l2 z1 z2 true true c9 false q) (A:Ha w b1 b2 v1 v2) {u:Value} (hu:tI w.heap.size base v2 l2 z2 u q):Gc w base b1 b2 v1 v2 l1 l2 z1 z2 true true c9 true (q.setCell (ae b2 0) u):=by
 have J:=Co.af.setCell q b2 0 u;have U:∀b,v1.ownBlock=some b->¬b=b2:=λb I=>(A.p1 b I).2.2.1;have j:∀b,v2.ownBlock=some b->¬b=b2:=λb I=>(A.p2 b I).2.2;have R:∀b,w.heap.size<=b->¬b=b2:=λb I e=>by have:=A.l2;omega
 exact{
  turn:=h.turn.trans J λb I=>.inl (.inr (.inr (.inr I)))
  r1:=λe=>by cases e
  r2:=λe=>by cases e
  s1:=λe=>J.blk (h.s1 e) λe=>A.nb e
  s2:=λe=>by cases e
  t1:=λe=>let⟨y,k1,k2⟩:=h.t1 e;⟨y,J.blk k1 (λe=>A.nb e),k2.turn J U R⟩
  t2:=λ_=>⟨u,(h.s2 rfl).aC 0 u,hu.turn J j R⟩}
end
theorem DX (h:yN w base b1 b2 v1 v2 l1 l2) (hbs:base<=w.heap.size) (ad:Int) (ha:0<ad) (s:Value) (t:Int) (hl1:l1.length<100) (hll:l1.length=l2.length) (hat:ad≠t):
 Calls prog 156 #[.agg #[i6 ad,s],i6 t,pt b1 0,pt b2 0] w (JN w base b1 b2 (l1++[ad]) (l2++[t])):=by
 have B8:l2.length<100:=by omega
 have A7:=jb hll hat;clear hll hat;obtain⟨A1,e1,rfl⟩:=Dv.aX h.o1;obtain⟨A2,e2,rfl⟩:=Dv.aX h.o2;have H:=ja h;have B9:decide (0<ad)=true:=decide_eq_true ha;clear h;go_enter func156,ntmps156;go_upto_region 1 with fail
 have k3:=ak.new w 38 #[i6 ad,s];have b3:=(Below.refl w.heap.size w).alloc lh (.cells #[i6 ad,s] 38);generalize w.alloc (.cells #[i6 ad,s] 38)=w3 at*;obtain⟨g,hg⟩:=ex w.heap.size;rw[hg]at k3 hbs|-;have c0:=k3.cell 0;have H3:=ja (H.a.below b3);have K3:=ja k3;have B3:=ja b3;have HG:=ja hg;clear k3 b3 hg;go_upto_region 2 with fail
 have A:=H3.a;have hA:Ha w3 b1 b2 (Value.slice A1 l1.length e1) (Value.slice A2 l2.length e2):=⟨A.k1.lt,A.k2.lt,A.nb,λb R=>⟨(A.o1.lt b R).2,Dv.aO A.o1 A.k1 dc b R,Dv.aO A.o1 A.k2 dc b R,A.ne b R⟩,λb R=>⟨(A.o2.lt b R).2,Dv.aO A.o2 A.k1 dc b R,Dv.aO A.o2 A.k2 dc b R⟩⟩;have HA:=ja hA;have Ao:¬((Value.slice A1 l1.length e1).ownBlock=some g\/(Value.slice A2 l2.length e2).ownBlock=some g\/g=b1\/g=b2):=by
  have q1:=Dv.aO A.o1 K3.a dc g;have q2:=Dv.aO A.o2 K3.a dc g;have:=H.a.k1.lt;have:=H.a.k2.lt;have:=HG.a;rintro(e|e|e|e)
  ·exact q1 e rfl
  ·exact q2 e rfl
  ·omega
  ·omega
 have Au:=ja Ao;have Aq:base<=w3.heap.size:=by have:=B3.a.size;have:=HG.a;omega
 have Ar:Gc w3 base b1 b2 (Value.slice A1 l1.length e1) (Value.slice A2 l2.length e2) l1 l2 ad t false false false false w3.drew:=⟨af.aj bh.drew,λ_=>A.o1,λ_=>A.o2,λ_=>A.k1,λ_=>A.k2,(λe=>by cases e),(λe=>by cases e)⟩;have A5:=aq;clear c0 Ao A hA;refine cK 11 [(ez (.slice A1 l1.length e1)),(ez (pt g 0)),(ez (i6 ad)),(λu q_=>∃p,u=.slice (some ⟨p,0,none⟩) 1 1/\ak q_ p 3 [i6 ad]/\w3.heap.size<=p),(tI w3.heap.size base (Value.slice A1 l1.length e1) l1 ad),(ez (.slice A2 l2.length e2)),(ez (i6 t)),(λu q_=>∃p,u=.slice (some ⟨p,0,none⟩) 1 1/\ak q_ p 3 [i6 t]/\w3.heap.size<=p),(tI w3.heap.size base (Value.slice A2 l2.length e2) l2 t),(ez undef),(ez undef)]
  (λf_ q_=>Gc w3 base b1 b2 (Value.slice A1 l1.length e1) (Value.slice A2 l2.length e2) l1 l2 ad t (f_ 4) (f_ 8) (f_ 9) (f_ 10) q_) (λi_ q_ q'=>af (λb=>(i_=4/\(Value.slice A1 l1.length e1).ownBlock=some b)\/(i_=8/\(Value.slice A2 l2.length e2).ownBlock=some b)\/(i_=9/\b=b1)\/(i_=10/\b=b2)) q_ q') kj rfl kj ?_ ?_ ?_ ?_
 ·exact Ar
 ·intro i_ j_ v_ q_ q' As hv hE;have A':∀b,w3.heap.size<=b->¬((i_=4/\(Value.slice A1 l1.length e1).ownBlock=some b)\/(i_=8/\(Value.slice A2 l2.length e2).ownBlock=some b)\/(i_=9/\b=b1)\/(i_=10/\b=b2)):=by
   rintro b R (⟨_,e⟩|⟨_,e⟩|⟨_,e⟩|⟨_,e⟩)
   ·have:=(HA.a.p1 b e).1;omega
   ·have:=(HA.a.p2 b e).1;omega
   ·have:=HA.a.l1;omega
   ·have:=HA.a.l2;omega
  rcases j_ with _|_|_|_|_|_|_|_|_|_|_|j_;(all_goals simp only[List.getD_cons_zero,List.getD_cons_succ]at hv|-);all_goals first|exact hv|skip
  ·obtain⟨p,hp,R,hl⟩:=hv;exact⟨p,hp,hE.blk R (A' p hl),hl⟩
  ·refine hv.turn hE (λb R=>?_) A';rintro(⟨e,_⟩|⟨_,e⟩|⟨_,e⟩|⟨_,e⟩)
   ·exact As e.symm
   ·exact(HA.a.p1 b R).2.2.2 e
   ·exact(HA.a.p1 b R).2.1 e
   ·exact(HA.a.p1 b R).2.2.1 e
  ·obtain⟨p,hp,R,hl⟩:=hv;exact⟨p,hp,hE.blk R (A' p hl),hl⟩
  ·refine hv.turn hE (λb R=>?_) A';rintro(⟨_,e⟩|⟨e,_⟩|⟨_,e⟩|⟨_,e⟩)
   ·exact(HA.a.p1 b e).2.2.2 R
   ·exact As e.symm
   ·exact(HA.a.p2 b R).2.1 e
   ·exact(HA.a.p2 b R).2.2 e
 ·refine⟨?_,lz [] [4],lx [1,10] [] λf x hG=>(hG.turn.blk K3.a Au.a).cell 0,?_,?_,?_,lz [] [1],?_,?_,?_,?_,trivial⟩
  ·intro f a x U J I hG hd hs K hK;have n0:f 0=false:=U;have n9:f 9=false:=I.no 9 0 9 n0 kj;have h2:_=_:=hs 2 kj;clear hd hs J I;refine pj ?_;have A0:=hG;rw[n9]at A0;have c1:=(A0.s1 rfl).cell 0;go_simp;exact hK _ _ rfl hG (af.refl _ _)
  ·intro f a x U J I hG hd hs K hK;have Av:_=_:=hd 2 11 kj;have B6:=aA Av;clear hd hs J I;refine pj ?_;go_simp;have R:=(Below.refl x.heap.size x).alloc lh (.cells #[i6 ad] 3);exact hK _ _ ⟨_,rfl,ak.new x 3 #[i6 ad],hG.turn.size⟩ (hG.step (af.aj (X:=λ_=>False) R) λ_ e=>e) (af.aj R)
  ·intro f a x U J I hG hd hs K hK;have n4:f 4=false:=U;have n8:f 8=false:=I.no 8 4 13 n4 kj;have n9:f 9=false:=I.no 9 4 13 n4 kj;have o:f 10=false:=I.no 10 4 13 n4 kj;have h9:_=_:=hd 0 9 kj;have Aw:=hd 3 12 kj;clear hd hs J I;refine pj ?_;obtain⟨p,hp,A8,Ax⟩:=Aw;rw[n4,n8,n9,o]at hG;obtain⟨v',w',A3,A4,AI,AR⟩:=aE (P:=prog) (ty:=50) underlying50 uD rfl dc (hG.r1 rfl) (A8.fe 0 1 1 1 lh lh (by rw[A5];decide)) (λu hu=>by rw[List.mem_singleton.1 hu];rfl) (by rw[A5];omega) om (Nat.le_trans Aq hG.turn.size);have ht:af (λb=>(Value.slice A1 l1.length e1).ownBlock=some b) x w':=af.bt AI λ_ e=>e;refine c_ 9 12 50 rfl h9 hp A3 ?_;refine hK _ _ ⟨A4,λp9 h9=>?_⟩ ?_ (ht.mono λb R=>.inl ⟨rfl,R⟩)
   ·rcases AR with e|e
    ·exact .inl (by rw[<-e];exact h9)
    ·rw[e]at h9;exact .inr (by have:x.heap.size=p9:=Option.some.inj h9;have:=hG.turn.size;omega)
   ·show Gc w3 base b1 b2 _ _ l1 l2 ad t (decide (4=4)||f 4) (decide (8=4)||f 8) (decide (9=4)||f 9) (decide (10=4)||f 10) w';rw[n8,n9,o];exact hG.N0 HA.a ht
  ·intro f a x U J I hG hd hs K hK;have n5:f 5=false:=U;have o:f 10=false:=I.no 10 5 14 n5 kj;have h3:_=_:=hs 3 kj;clear hd hs J I;refine pj ?_;have A0:=hG;rw[o]at A0;have c1:=(A0.s2 rfl).cell 0;go_simp;exact hK _ _ rfl hG (af.refl _ _)
  ·intro f a x U J I hG hd hs K hK;have B':_=_:=hd 6 15 kj;have B7:=aA B';clear hd hs J I;refine pj ?_;go_simp;have R:=(Below.refl x.heap.size x).alloc lh (.cells #[i6 t] 3);exact hK _ _ ⟨_,rfl,ak.new x 3 #[i6 t],hG.turn.size⟩ (hG.step (af.aj (X:=λ_=>False) R) λ_ e=>e) (af.aj R)
  ·intro f a x U J I hG hd hs K hK;have n8:f 8=false:=U;have n4:f 4=true:=J 4 13 kj;have n9:f 9=false:=I.no 9 8 17 n8 kj;have o:f 10=false:=I.no 10 8 17 n8 kj;have B0:_=_:=hd 5 14 kj;have B1:=hd 7 16 kj;clear hd hs J I;refine pj ?_;obtain⟨p,hp,A8,Ax⟩:=B1;rw[n4,n8,n9,o]at hG;obtain⟨v',w',A3,A4,AI,AR⟩:=aE (P:=prog) (ty:=50) underlying50 uD rfl dc (hG.r2 rfl) (A8.fe 0 1 1 1 lh lh (by rw[A5];decide)) (λu hu=>by rw[List.mem_singleton.1 hu];rfl) (by rw[A5];omega) om (Nat.le_trans Aq hG.turn.size);have ht:af (λb=>(Value.slice A2 l2.length e2).ownBlock=some b) x w':=af.bt AI λ_ e=>e;refine c_ 14 16 50 rfl B0 hp A3 ?_;refine hK _ _ ⟨A4,λp9 h9=>?_⟩ ?_ (ht.mono λb R=>.inr (.inl ⟨rfl,R⟩))
   ·rcases AR with e|e
    ·exact .inl (by rw[<-e];exact h9)
    ·rw[e]at h9;exact .inr (by have:x.heap.size=p9:=Option.some.inj h9;have:=hG.turn.size;omega)
   ·show Gc w3 base b1 b2 _ _ l1 l2 ad t (decide (4=8)||f 4) (decide (8=8)||f 8) (decide (9=8)||f 9) (decide (10=8)||f 10) w';rw[n4,n9,o];exact hG.NX HA.a ht
  ·intro f a x U J I hG hd hs K hK;have n9:f 9=false:=U;have n4:f 4=true:=J 4 13 kj;have n8:f 8=true:=J 8 17 kj;have h2:_=_:=hs 2 kj;have Aa:=hd 4 13 kj;clear hd hs J I;refine pj ?_;rw[n4,n8,n9]at hG;have k1:=hG.s1 rfl;have c1:=k1.cell 0;have f1:=k1.frozen 0;obtain⟨uu,Ab⟩:=ex (a.tmps.getD 13 undef);rw[Ab]at Aa;obtain⟨A9,c9,rfl⟩:=Dv.aX Aa.1;go_simp;refine hK _ _ rfl ?_ ((Co.af.setCell x b1 0 (.slice A9 (l1.length+1) c9)).mono λb R=>.inr (.inr (.inl ⟨rfl,R⟩)));show Gc w3 base b1 b2 _ _ l1 l2 ad t (decide (4=9)||f 4) (decide (8=9)||f 8) (decide (9=9)||f 9) (decide (10=9)||f 10) _;rw[n4,n8];exact hG.Ob HA.a Aa
  ·intro f a x U J I hG hd hs K hK;have o:f 10=false:=U;have n4:f 4=true:=J 4 13 kj;have n8:f 8=true:=J 8 17 kj;have h3:_=_:=hs 3 kj;have Ad:=hd 8 17 kj;clear hd hs J I;refine pj ?_;rw[n4,n8,o]at hG;have k1:=hG.s2 rfl;have c1:=k1.cell 0;have f1:=k1.frozen 0;obtain⟨uu,Ab⟩:=ex (a.tmps.getD 17 undef);rw[Ab]at Ad;obtain⟨A9,c9,rfl⟩:=Dv.aX Ad.1;go_simp;refine hK _ _ rfl ?_ ((Co.af.setCell x b2 0 (.slice A9 (l2.length+1) c9)).mono λb R=>.inr (.inr (.inr ⟨rfl,R⟩)));show Gc w3 base b1 b2 _ _ l1 l2 ad t (decide (4=10)||f 4) (decide (8=10)||f 8) (decide (9=10)||f 9) (decide (10=10)||f 10) _;rw[n4,n8];exact hG.NP HA.a Ad
 ·intro x hG;replace hG: (λf_ q_=>Gc w3 base b1 b2 (Value.slice A1 l1.length e1) (Value.slice A2 l2.length e2) l1 l2 ad t (f_ 4) (f_ 8) (f_ 9) (f_ 10) q_) (λj=>decide (j<11)) x:=hG;(try dsimp only at hG);rintro _ rfl _ rfl _ rfl v3 BB v4 BO _ rfl _ rfl v7 BQ v8 Bg;simp only[ap];(try simp only[Exit.then]);clear Ar;go_end0;obtain⟨u1,B2,Ae⟩:=hG.t1 rfl;obtain⟨u2,B4,A6⟩:=hG.t2 rfl;have s3:=B3.a.size;have B5:=H3.a.f1;have Bt:=HG.a;refine⟨rfl,u1,u2,⟨B2,B4,?_,?_,?_,HA.a.nb,H3.a.f1,H3.a.f2,?_⟩,?_⟩
  ·have:=Ae.1;rw[List.length_append];unfold ints at this|-;rw[List.map_append];exact this
  ·have:=A6.1;rw[List.length_append];unfold ints at this|-;rw[List.map_append];exact this
  ·intro p hp Ah;rcases Ae.2 p hp with e|e
   ·rcases A6.2 p Ah with e'|e'
    ·exact(HA.a.p1 p e).2.2.2 e'
    ·have:=(HA.a.p1 p e).1;omega
   ·rcases A6.2 p Ah with e'|e'
    ·have:=(HA.a.p2 p e').1;omega
    ·have q1:=Ae.1.cells hp l1.length (i6 ad) (by unfold ints;rw[List.getElem?_append_right sj,List.length_map,Nat.sub_self];rfl);have q2:=A6.1.cells Ah l1.length (i6 t) (by unfold ints;rw[List.getElem?_append_right (by simp[A7.a]),List.length_map,A7.a,Nat.sub_self];rfl);rw[q1]at q2;injection q2 with q2;injection q2 with _ q2;exact A7.b q2
  ·simp only[List.length_append,List.length_cons,List.length_nil];omega
  ·refine(af.aj B3.a).trans hG.turn ?_;rintro b (e|e|rfl|rfl)
   ·exact .inl (zB H.a.o1 e)
   ·exact .inl (zB H.a.o2 e)
   ·exact .inl ⟨H3.a.f1,_,_,_,H.a.k1⟩
   ·exact .inl ⟨H3.a.f2,_,_,_,H.a.k2⟩
end
end Co
namespace Co
open Go.RowKit
open Ad (dP)
attribute [local go_sem] Oper.semAt_some
def app (l:List Int) (a:Int):List Int:=if 0<a then l++[a]else l
def zs (l:List Int):List Int:=List.replicate l.length 0
theorem fM (l:List Int) (a:Int): (app l a).length<=l.length+1:=by unfold app;split<;>simp
section
variable {w w':World} {base b1 b2:Nat} {l:List Int} {c:C} {fs:List Fi} {f:Fi}
def nG (w:World) (base b1 b2:Nat) (l:List Int):Prop:=∃v1 v2,yN w base b1 b2 v1 v2 l (zs l)
theorem jB (h:nG w base b1 b2 l) (hbs:base<=w.heap.size) (a:Int) (ha:0<=a) (s:Value) (hl:l.length<100):
 Calls prog 156 #[.agg #[i6 a,s],i6 0,pt b1 0,pt b2 0] w λe w'=>e=.returned (.tuple #[])/\nG w' base b1 b2 (app l a)/\af (MG w base) w w':=by
 obtain⟨v1,v2,h⟩:=h;by_cases I:0<a
 ·refine(DX h hbs a I s 0 hl (by unfold zs;simp) om).mono ?_;rintro e w' ⟨he,u1,u2,J,R⟩;refine⟨he,⟨u1,u2,?_⟩,R⟩;unfold app;rw[if_pos I];have:zs (l++[a])=zs l++[0]:=(by unfold zs;rw[List.length_append];exact List.replicate_succ');rw[this];exact J
 ·obtain rfl:a=0:=(by omega);refine(Hr h hbs s 0).mono ?_;rintro e w' ⟨he,u1,u2,J,R⟩;refine⟨he,⟨u1,u2,?_⟩,R⟩;unfold app;rw[if_neg I];exact J
theorem aL.turn {P:Program} {K:TypeId} {b r:Nat} {l rem:KV} {X:Nat->Prop} (h:aL w P K b r l rem) (ht:af X w w') (hb:¬X b) (hr:¬X r):aL w' P K b r l rem/\w'.rangeLeft b r=w.rangeLeft b r:=by obtain⟨left,R,h,e,f⟩:=h;have U:=h.owns.lt;have j:=h.lt;have I:=ht.block b U hb;have J:=ht.block r j hr;obtain⟨es,clock,since,seen,o,k1,F,hs,hD,k2,rest⟩:=h;refine⟨⟨left,R,⟨es,clock,since,seen,o,I.trans k1,F,hs,hD,J.trans k2,rest⟩,e,f⟩,?_⟩;unfold World.rangeLeft;rw[I,J]
theorem aL.iter {P:Program} {K:TypeId} {b r:Nat} {l rem:KV} (h:aL w P K b r l rem) {base:Nat}:¬MG w base r:=by obtain⟨left,I,h,e,f⟩:=h;obtain⟨es,clock,since,seen,J,k1,F,hs,R,k2,rest⟩:=h;rintro⟨_,c,t,U,e⟩;rw[k2]at e;cases e
theorem GO:∀args x,(callFunc 156 args).run prog x=.ok (.enter 156 args) x:=λargs x=>by have h:=func156;go_simp
def Nx:Option W->KV
 |none=>[]
 |some p=>[(1,pt p.b 0)]
def lu (a0 a1 a2 a3:Int) (bs:Option W):List Int:=match bs with
 |none=>app (app (app (app [] a0) a1) a2) a3
 |some p=>app (app (app (app (app [] a0) a1) a2) a3) p.at_
def OL (a0 a1 a2 a3:Int):Nat->List Int
 |0=>[]
 |1=>app [] a0
 |2=>app (app [] a0) a1
 |3=>app (app (app [] a0) a1) a2
 |_=>app (app (app (app [] a0) a1) a2) a3
def Ls (w:World) (n:Nat) (e:Ending) (w':World):Prop:=∃g,e=.returned (.slice (some ⟨g,0,none⟩) 24 24)/\ak w' g 308 (dW n)/\w.heap.size<=g/\Bw w w'
theorem pM (h:bD w c fs) (hg:c.k.g1=20/\c.k.g2=2/\c.k.g3=1/\c.k.g4=4) (a0 a1 a2 a3 s0 s1 s2 s3:Int) (hm:c.k.maps=[i6 a0,.int .u32 s0,i6 a1,.int .u32 s1,i6 a2,.int .u32 s2,i6 a3,.int .u32 s3]) (p0:0<=a0) (p1:0<=a1) (p2:0<=a2) (p3:0<=a3)
 (bs:Option W) (hb:ay w prog 3 c.k.aY (Nx bs)) (hw:∀p,bs=some p->gX w c.own p/\0<=p.at_/\∃f,fs=[f]/\f.tick=0)
 (hlv:∃ls:List Nat,lu a0 a1 a2 a3 bs=ls.map (λa:Nat=>(a:Int))/\(∀a∈ls,1<=a/\a<=16)/\ls.Nodup):
 Calls prog 112 #[pt c.g 0] w (Ls w (lu a0 a1 a2 a3 bs).length):=by
 have H:=ja h;have HB:=jb hb hw;have HG:=ja hg;have HL:=ja hlv;have HO:=GO;have HR:∀(fn:Fn) (first cap:Array Value) (w:World),(Instr.makeFunc fn first cap).run prog w=.ok (.func fn first cap) w:=λ_ _ _ _=>rfl;have hr:=h.core.bF 170 c.k.maps (by rw[h.len.maps];exact si h.len);rw[hm]at hr;have F7: (prog.info? 106).map (·.size)=some 8:=kj;clear h hb hw hg hlv hm;go_enter func112,ntmps112;go_upto_region 3 with fail
 have k1:=ak.new w 50 #[.slice none 0 0];have b1:=(Below.refl w.heap.size w).alloc lh (.cells #[.slice none 0 0] 50);have Cd: (w.alloc (.cells #[.slice none 0 0] 50)).heap.size=w.heap.size+1:=by simp
 generalize w.alloc (.cells #[.slice none 0 0] 50)=w1 at*;have k2:=ak.new w1 50 #[.slice none 0 0];have b2:=(Below.refl w1.heap.size w1).alloc lh (.cells #[.slice none 0 0] 50);rw[Cd]at k2;generalize w1.alloc (.cells #[.slice none 0 0] 50)=w2 at*;obtain⟨q,hq⟩:=ex w.heap.size;rw[hq]at k1 k2|-;have Co:nG w2 q q (q+1) []:=⟨_,_,k1.ext b2,k2,World.ownsRow_nil _ _ _ _,World.ownsRow_nil _ _ _ _,λb hb=>(by cases hb),by omega,Nat.le_refl _,by omega,by decide,by decide⟩;have Ab:Below w.heap.size w w2:=b1.trans (b2.mono b1.size);have D0:=jb Co Ab;have D3:w2.rangeAt c.g 170 [i6 a0,.int .u32 s0,i6 a1,.int .u32 s1,i6 a2,.int .u32 s2,i6 a3,.int .u32 s3]:=λj v hv=>cl Ab H.a.core.lt (hr j v hv);have HQ:=ja hq;clear k1 k2 b1 b2 Cd Co Ab hr;go_wp2_with(refine aw 106 (.tmp 22) rfl rfl c.g 170 rfl [i6 a0,.int .u32 s0,i6 a1,.int .u32 s1,i6 a2,.int .u32 s2,i6 a3,.int .u32 s3] _ D3 underlying106 rfl F7 ?_)
 clear D3;go_loopw [7,24] (λ_ u wr=>∃(k:Nat) (l:List Int),k<=4/\u=i6 (k:Int)/\l=OL a0 a1 a2 a3 k/\nG wr q q (q+1) l/\Below q w wr/\l.length<=k) (λ_ u _=>4-(RowKit.intOf u).toNat)
 case atStart=>exact⟨0,[],by omega,rfl,rfl,D0.a,by rw[<-HQ.a];exact D0.b,Nat.le_refl _⟩
 case round=>
  obtain⟨k,l,hk,rfl,hl,R,I,hlen⟩:=hrel;rcases(show k=0\/k=1\/k=2\/k=3\/k=4 by omega)with rfl|rfl|rfl|rfl|rfl
  ·obtain rfl:l=[]:=hl;have B0:∀W:World,(Instr.index 106 (.agg #[i6 a0,.int .u32 s0,i6 a1,.int .u32 s1,i6 a2,.int .u32 s2,i6 a3,.int .u32 s3]) (i6 0)).run prog W=.ok (.agg #[i6 a0,.int .u32 s0]) W:=λW=>(by kernel_rfl);(go_wp2_with fail);have o:=(Below.refl wr.heap.size wr).alloc lh (.cells #[i6 a0,.int .u32 s0] 38);generalize wr.alloc (.cells #[i6 a0,.int .u32 s0] 38)=w3 at*;have J:q<=wr.heap.size:=(by have:=I.size;have:=HQ.a;omega);have A':nG w3 q q (q+1) ([]):=(by obtain⟨u1,u2,R⟩:=R;exact⟨u1,u2,R.below o⟩);refine(jB A' (Nat.le_trans J o.size) a0 p0 _ om).mono ?_;rintro e w4 ⟨rfl,A0,A3⟩;have HZ:=jb A0 ((I.trans (o.mono J)).trans (A3.bm (Nat.le_trans J o.size) λ_ h=>h.1));have A6:=ja (show(app ([]) a0).length<=1 from Nat.le_trans (fM _ _) om);clear A0 A3 o R I hlen A' J;go_wp2;go_roundw;case rel=>exact⟨1,_,by omega,rfl,rfl,HZ.a,HZ.b,A6.a⟩
   case measure=>simp[RowKit.intOf]
  ·obtain rfl:l=app [] a0:=hl;have B0:∀W:World,(Instr.index 106 (.agg #[i6 a0,.int .u32 s0,i6 a1,.int .u32 s1,i6 a2,.int .u32 s2,i6 a3,.int .u32 s3]) (i6 1)).run prog W=.ok (.agg #[i6 a1,.int .u32 s1]) W:=λW=>(by kernel_rfl);(go_wp2_with fail);have o:=(Below.refl wr.heap.size wr).alloc lh (.cells #[i6 a1,.int .u32 s1] 38);generalize wr.alloc (.cells #[i6 a1,.int .u32 s1] 38)=w3 at*;have J:q<=wr.heap.size:=(by have:=I.size;have:=HQ.a;omega);have A':nG w3 q q (q+1) (app [] a0):=(by obtain⟨u1,u2,R⟩:=R;exact⟨u1,u2,R.below o⟩);refine(jB A' (Nat.le_trans J o.size) a1 p1 _ om).mono ?_;rintro e w4 ⟨rfl,A0,A3⟩;have HZ:=jb A0 ((I.trans (o.mono J)).trans (A3.bm (Nat.le_trans J o.size) λ_ h=>h.1));have A6:=ja (show(app (app [] a0) a1).length<=2 from Nat.le_trans (fM _ _) om);clear A0 A3 o R I hlen A' J;go_wp2;go_roundw;case rel=>exact⟨2,_,by omega,rfl,rfl,HZ.a,HZ.b,A6.a⟩
   case measure=>simp[RowKit.intOf]
  ·obtain rfl:l=app (app [] a0) a1:=hl;have B0:∀W:World,(Instr.index 106 (.agg #[i6 a0,.int .u32 s0,i6 a1,.int .u32 s1,i6 a2,.int .u32 s2,i6 a3,.int .u32 s3]) (i6 2)).run prog W=.ok (.agg #[i6 a2,.int .u32 s2]) W:=λW=>(by kernel_rfl);(go_wp2_with fail);have o:=(Below.refl wr.heap.size wr).alloc lh (.cells #[i6 a2,.int .u32 s2] 38);generalize wr.alloc (.cells #[i6 a2,.int .u32 s2] 38)=w3 at*;have J:q<=wr.heap.size:=(by have:=I.size;have:=HQ.a;omega);have A':nG w3 q q (q+1) (app (app [] a0) a1):=(by obtain⟨u1,u2,R⟩:=R;exact⟨u1,u2,R.below o⟩);refine(jB A' (Nat.le_trans J o.size) a2 p2 _ om).mono ?_;rintro e w4 ⟨rfl,A0,A3⟩;have HZ:=jb A0 ((I.trans (o.mono J)).trans (A3.bm (Nat.le_trans J o.size) λ_ h=>h.1));have A6:=ja (show(app (app (app [] a0) a1) a2).length<=3 from Nat.le_trans (fM _ _) om);clear A0 A3 o R I hlen A' J;go_wp2;go_roundw;case rel=>exact⟨3,_,by omega,rfl,rfl,HZ.a,HZ.b,A6.a⟩
   case measure=>simp[RowKit.intOf]
  ·obtain rfl:l=app (app (app [] a0) a1) a2:=hl;have B0:∀W:World,(Instr.index 106 (.agg #[i6 a0,.int .u32 s0,i6 a1,.int .u32 s1,i6 a2,.int .u32 s2,i6 a3,.int .u32 s3]) (i6 3)).run prog W=.ok (.agg #[i6 a3,.int .u32 s3]) W:=λW=>(by kernel_rfl);(go_wp2_with fail);have o:=(Below.refl wr.heap.size wr).alloc lh (.cells #[i6 a3,.int .u32 s3] 38);generalize wr.alloc (.cells #[i6 a3,.int .u32 s3] 38)=w3 at*;have J:q<=wr.heap.size:=(by have:=I.size;have:=HQ.a;omega);have A':nG w3 q q (q+1) (app (app (app [] a0) a1) a2):=(by obtain⟨u1,u2,R⟩:=R;exact⟨u1,u2,R.below o⟩);refine(jB A' (Nat.le_trans J o.size) a3 p3 _ om).mono ?_;rintro e w4 ⟨rfl,A0,A3⟩;have HZ:=jb A0 ((I.trans (o.mono J)).trans (A3.bm (Nat.le_trans J o.size) λ_ h=>h.1));have A6:=ja (show(app (app (app (app [] a0) a1) a2) a3).length<=4 from Nat.le_trans (fM _ _) om);clear A0 A3 o R I hlen A' J;go_wp2;go_roundw;case rel=>exact⟨4,_,by omega,rfl,rfl,HZ.a,HZ.b,A6.a⟩
   case measure=>simp[RowKit.intOf]
  ·obtain rfl:l=app (app (app (app [] a0) a1) a2) a3:=hl;have A4:Below w.heap.size w wr:=(by rw[HQ.a];exact I);have U:=H.a.below A4;have cb:wr.cell? (ae c.g 169)=some (.map (some c.k.aY)):=(U.cell _).trans (rI U.len);have D5:=HB.a.ext A4;obtain⟨w5,E1,B1,B2,F8⟩:=aL.start D5 az underlying105;have b5:Below q wr w5:=Below.grown (Below.refl q wr) B2 (oi A4.size HQ.a) (λ_ e=>by cases e);have E4:nG w5 q q (q+1) (app (app (app (app [] a0) a1) a2) a3):=(by obtain⟨u1,u2,R⟩:=R;exact⟨u1,u2,R.below (Below.grown (Below.refl _ wr) B2 lh (λ_ e=>by cases e))⟩);obtain⟨r,E5⟩:=ex wr.heap.size;rw[E5]at E1 B1;have FZ:=ja B1;have B3:=jc E4 (I.trans b5) hlen;have G1:=ja (show q<=r by have:=A4.size;have:=HQ.a;omega);have G2:=HB.a.lt;have G5:=ja (show c.k.aY<q by have:=HQ.a;omega);clear A4 U D5 R I hlen B1 B2 F8 b5 E4 E5 G2;go_wp2;clear cb E1;(go_loopw [8,9,10,11,12,14,16,36] (λ_ _ _ _ _ _ _ _ wq=>∃(rem:KV) (l:List Int),aL wq prog 3 c.k.aY r (Nx bs) rem/\nG wq q q (q+1) l/\Below q w wq/\l.length<=5/\((rem=Nx bs/\l=app (app (app (app [] a0) a1) a2) a3)\/(rem=[]/\l=lu a0 a1 a2 a3 bs))) (λ_ _ _ _ _ _ _ _ wq=>wq.rangeLeft c.k.aY r));case atStart=>exact⟨_,_,FZ.a,B3.a,B3.b,by have:=B3.c;omega,.inl ⟨rfl,rfl⟩⟩
   case round=>
    obtain⟨rem,l,hR,R,I,hlen,Ah⟩:=hrel;rcases hR.step az 0 with⟨Au,E6⟩|⟨n,x,w6,A5,HS,E6,B4,A9,E7,HU,E8⟩
    ·have hl:l=lu a0 a1 a2 a3 bs:=by
      rcases Ah with⟨e1,e2⟩|⟨_,e2⟩
      ·rw[Au]at e1;cases bs with
       |none=>exact e2
       |some p=>cases e1
      ·exact e2
     subst hl;have U:=H.a.below (show Below w.heap.size w wr by rw[HQ.a];exact I);have B5:=U.core.bF 1 [i6 c.k.g1,i6 c.k.g2,i6 c.k.g3,i6 c.k.g4] rfl;rw[HG.a.1,HG.a.2.1,HG.a.2.2.1,HG.a.2.2.2]at B5;have E9:=U.core.lt;obtain⟨v1,v2,hA⟩:=R;obtain⟨A1,e1,rfl⟩:=Dv.aX hA.o1;obtain⟨A2,e2,rfl⟩:=Dv.aX hA.o2;obtain⟨ls,Ao,Av,Aw⟩:=HL.a;have AI: (lu a0 a1 a2 a3 bs).length=ls.length:=(by rw[Ao,List.length_map]);have B6: (zs (lu a0 a1 a2 a3 bs)).length=ls.length:=(by unfold zs;rw[List.length_replicate,AI]);have Aq:=hA.k1;have Ar:=hA.k2;have B7:wr.ownsRow q 3 1 (.slice A1 ls.length e1) ls.length (ints (ls.map λa:Nat=>(a:Int))):=(by have:=hA.o1;rw[AI,Ao]at this;exact this);have B8:wr.ownsRow q 3 1 (.slice A2 ls.length e2) ls.length (ints (List.replicate ls.length 0)):=(by have:=hA.o2;rw[B6]at this;unfold zs at this;rw[AI]at this;exact this);rw[AI]at Aq;rw[B6]at Ar;have HX:=ja (⟨B5,⟨Aq,Ar,B7,B8⟩,Av,Aw,Ao⟩:_/\(_/\_/\_/\_)/\_/\_/\_);have EC:Below wr.heap.size wr wr.drew:=bh.drew;have B9:=ja I;have G7:=ja AI;have EK:ls.length<=100:=(by omega);obtain⟨n,hn⟩:=ex ls.length;rw[hn]at EK Aq Ar B7 B8 HX;have HN:=ja hn;clear Ah Au B5 hA Av Aw Ao U hR I AI B6 Aq Ar B7 B8 hn hlen;(go_upto_region 24 with fail);refine wp_region_list 12 [(ez (pt c.g 0)),(ez (pt c.g 0)),(ez (pt c.g 1)),(ez dP),(ez (.slice A1 n e1)),(ez (.slice A2 n e2)),(λu q_=>∃g,u=.tuple #[.slice (some ⟨g,0,none⟩) 24 24,i6 0]/\ak q_ g 308 (dW ls.length)/\w.heap.size<=g),(λu q_=>∃g,u=.tuple #[.slice (some ⟨g,0,none⟩) 24 24,i6 0]/\ak q_ g 308 (dW ls.length)/\w.heap.size<=g),(λu q_=>∃g,u=.slice (some ⟨g,0,none⟩) 24 24/\ak q_ g 308 (dW ls.length)/\w.heap.size<=g),(ez (i6 0)),(λu q_=>∃g,u=.slice (some ⟨g,0,none⟩) 24 24/\ak q_ g 308 (dW ls.length)/\w.heap.size<=g),(ez (i6 0))]
      (λq_=>Below wr.heap.size wr q_) kj rfl kj ?_ ?_ ?_ ?_
     ·exact EC
     ·exact⟨ah _,ah _,ah _,ah _,ah _,ah _,λ_ _ _ ⟨g,h1,h2,h3⟩ hb=>⟨g,h1,h2.ext hb,h3⟩,λ_ _ _ ⟨g,h1,h2,h3⟩ hb=>⟨g,h1,h2.ext hb,h3⟩,λ_ _ _ ⟨g,h1,h2,h3⟩ hb=>⟨g,h1,h2.ext hb,h3⟩,ah _,λ_ _ _ ⟨g,h1,h2,h3⟩ hb=>⟨g,h1,h2.ext hb,h3⟩,ah _,trivial⟩
     ·refine⟨rz [] [0],rz [0,91] [],rz [1,92] [],?_,rx [] [3] λx hG=>(HX.a.2.1.1.ext hG).cell 0,rx [] [4] λx hG=>(HX.a.2.1.2.1.ext hG).cell 0,?_,?_,?_,?_,?_,rz [9,99] [],trivial⟩
      ·intro a x hG hd hs K hK;have G8:_=_:=hd 2 93 kj;clear hd hs;refine pj ?_;refine wp_load_mid 60 (.tmp 93) rfl c.g 1 G8 [i6 20,i6 2,i6 1,i6 4] _ (λj v hv=>cl hG E9 (HX.a.1 j v hv)) underlying60 rfl kj ?_;exact hK _ _ rfl hG bh
      ·intro a x hG hd hs K hK;have HV:_=_:=hd 3 94 kj;have HW:_=_:=hd 4 95 kj;have HY:_=_:=hd 5 96 kj;clear hd hs;refine pj ?_;have i1:Is .i64 x x.heap.size (.slice A1 n e1) (ls.map λa:Nat=>(a:Int)):=(by have:=bw.aG (aD HX.a.2.1.2.2.1 hG);unfold Is;rw[List.length_map,HN.a];exact this);have i2:Is .i64 x x.heap.size (.slice A2 n e2) (List.replicate ls.length 0):=(by have:=bw.aG (aD HX.a.2.1.2.2.2 hG);unfold Is;rw[List.length_replicate,HN.a];exact this);go_simp;refine(BI ls HX.a.2.2.1 HX.a.2.2.2.1 (by rw[HN.a];exact EK) _ _ i1 i2).mono ?_;rintro e w' ⟨g,rfl,hk,A7,hb⟩;exact hK _ _ ⟨g,rfl,hk,Nat.le_trans (show w.heap.size<=wr.heap.size from(show Below w.heap.size w wr by rw[HQ.a];exact B9.a).size) (Nat.le_trans hG.size A7)⟩ (hG.trans (hb.mono hG.size)) hb
      ·intro a x hG hd hs K hK;have EX:=hd 6 97 kj;clear hd hs;refine pj ?_;obtain⟨uu,BB⟩:=ex (a.tmps.getD 97 undef);rw[BB]at EX;go_simp;exact hK _ _ EX hG bh
      ·intro a x hG hd hs K hK;have BO:=hd 7 90 kj;clear hd hs;refine pj ?_;obtain⟨g,hu,hk,A7⟩:=BO;go_simp;exact hK _ _ ⟨g,rfl,hk,A7⟩ hG bh
      ·intro a x hG hd hs K hK;have BO:=hd 7 90 kj;clear hd hs;refine pj ?_;obtain⟨g,hu,hk,A7⟩:=BO;go_simp;exact hK _ _ rfl hG bh
      ·intro a x hG hd hs K hK;have F':=hd 8 98 kj;clear hd hs;refine pj ?_;obtain⟨uu,BB⟩:=ex (a.tmps.getD 98 undef);rw[BB]at F';go_simp;exact hK _ _ F' hG bh
     ·intro x hG;(iterate 6 rintro _ rfl);rintro v6 H0 v7 H2 v8 H3 _ rfl v10 F0 _ rfl;simp only[Act.put,List.setIfInBounds_toArray,List.set_cons_zero,List.set_cons_succ,gC];(try simp only[Exit.then]);have H4:=ja hG;clear hG EC E9;obtain⟨g,rfl,hk,A7⟩:=F0;have HK:=jb hk A7;clear hk A7 H0 H2 H3;go_wp2;go_ret;rw[G7.a];exact⟨g,rfl,HK.a,HK.b,(show Below w.heap.size w wr by rw[HQ.a];exact B9.a).trans (H4.a.mono (show Below w.heap.size w wr by rw[HQ.a];exact B9.a).size)⟩
    ·have H5:∃p,bs=some p/\n=1/\x=pt p.b 0/\bf rem n=[]/\l=app (app (app (app [] a0) a1) a2) a3:=by
      rcases Ah with⟨e1,e2⟩|⟨e1,_⟩
      ·cases bs with
       |none=>rw[e1]at A5;cases A5
       |some p=>rw[e1]at A5;have H6:=List.mem_singleton.1 A5;injection H6 with h1 h2;refine⟨p,rfl,h1,h2,?_,e2⟩;rw[e1,h1];rfl
      ·rw[e1]at A5;cases A5
     obtain⟨p,rfl,rfl,rfl,Ax,rfl⟩:=H5;rw[Ax]at B4;have J:q<=wr.heap.size:=(by have:=I.size;have:=HQ.a;omega);have b6:Below q wr w6:=Below.grown (Below.refl q wr) A9 J (λj e=>by obtain rfl:r=j:=Option.some.inj e;exact G1.a);have F1:nG w6 q q (q+1) (app (app (app (app [] a0) a1) a2) a3):=by
      obtain⟨u1,u2,R⟩:=R;have H7:=aL.iter hR (base:=0);have BQ:∀{b:Nat} {c:Array Value} {t:TypeId} {fz:Nat×Nat},wr.heap[b]? =some (.cells c t fz)->some b≠some r:=λh e=>H7 ⟨Nat.zero_le _,_,_,_,by rw[<-Option.some.inj e];exact h⟩;have ho:∀{v:Value} {n:Nat} {xs:List Value},wr.ownsRow q 3 1 v n xs->v.ownBlock=none\/v.ownBlock≠some r:=λ{v n xs} h=>by
       rcases h.2 with⟨rfl,_⟩|⟨g',cap,cur,rfl,_,h1,_⟩
       ·exact .inl rfl
       ·exact .inr (BQ h1)
      exact⟨u1,u2,R.k1.grown A9 (BQ R.k1),R.k2.grown A9 (BQ R.k2),R.o1.kept A9 (ho R.o1),R.o2.kept A9 (ho R.o2),R.ne,R.nb,R.f1,R.f2,R.gM⟩
     obtain⟨A8,B',f,rfl,F2⟩:=HB.b p rfl;have A4:Below w.heap.size w w6:=(by rw[HQ.a];exact I.trans b6);have U:=H.a.below A4;have H9:w6.cell? (ae c.g 6)=some (.map (some c.files)):=(U.cell _).trans (cg U.len);have Bg:=U.files.gw az underlying95 (tj w6) 1 dc;rw[show bK (kC [f]) 1=some (pt f.g 0)from j7 [f] 0]at Bg;simp only[Option.getD_some,Option.isSome_some]at Bg;have HA:w6.cell? (ae f.g 6)=some (i6 0):=((U.fi 0 f rfl).blk.cell 6).trans (by rw[<-F2];rfl);have kp:=A8.blk.ext A4;have q0:w6.cell? (ae p.b 0)=some (i6 p.at_):=kp.cell 0;have q1:w6.cell? (ae p.b 1)=some (.int .u32 p.sum):=kp.cell 1;have HP:=jc kp (A8.nodes.ext A4) (A8.data.ext A4);have Ad:=jd F1 (I.trans b6) B4 E8;have Bt:=ja (show p.b<q/\p.nodes<q/\p.data<q by have h1:=A8.blk.lt;have h2:=A8.nodes.lt;have h3:=A8.data.lt;have:=HQ.a;omega);have F3:q<=w6.heap.size:=Nat.le_trans J b6.size;have HC: (app (app (app (app [] a0) a1) a2) a3).length<100:=(by omega);have Bu:=ja (show(app (app (app (app [] a0) a1) a2) a3).length<=4 from Nat.le_trans (fM _ _) (Nat.succ_le_succ (Nat.le_trans (fM _ _) (Nat.succ_le_succ (Nat.le_trans (fM _ _) (Nat.succ_le_succ (fM _ _)))))));have HT:=ja B';clear hR I R hlen Ah A5 A9 E7 E8 B4 Ax J b6 F1 A4 U A8 B' F2;(go_wp2_with fail);refine(jB Ad.a F3 p.at_ HT.a _ HC).mono ?_;rintro e w7 ⟨rfl,F4,AR⟩;have Ae:∀{b:Nat},b<q->¬MG w6 q b:=λh e=>(by have:=e.1;omega);have By:=aL.turn Ad.c AR (Ae G5.a) (aL.iter Ad.c);have b7:=AR.bm F3 λ_ h=>h.1;have C4:=AR.blk HP.a (Ae Bt.a.1);have CC:=AR.map HP.b (Ae Bt.a.2.1);have F5:=AR.map HP.c (Ae Bt.a.2.2);have Aa:=ja (⟨F4,Ad.b.trans b7,By.1,(by rw[By.2];exact Ad.d)⟩:nG w7 q q (q+1) (app (app (app (app (app [] a0) a1) a2) a3) p.at_)/\Below q w w7/\aL w7 prog 3 c.k.aY r (Nx (some p)) []/\w7.rangeLeft c.k.aY r<wr.rangeLeft c.k.aY r);have F6:=jc C4 CC F5;have HD:=ja (Nat.le_trans (fM (app (app (app (app [] a0) a1) a2) a3) p.at_) (show _<=5 by have:=Bu.a;omega));obtain⟨w8,r8,HE,HF,b8⟩:=h_ CC az underlying151;have cn:w7.cell? (ae p.b 26)=some (.map (some p.nodes)):=C4.cell 26;have As:=ja b8;clear F4 AR By b7 C4 CC F5 b8 H9 HA Bg kp q0 q1 Ae;go_wp2;clear cn HE;(go_loopw [14] (λ_ wq=>wq=w8) (λ_ _=>0));case atStart=>rfl
     case round=>
      subst hrel;obtain⟨w9,r9,HH,Hw,b9⟩:=h_ (F6.c.ext As.a) az underlying151;have cd:wr.cell? (ae p.b 25)=some (.map (some p.data)):=(F6.a.ext As.a).cell 25;have HI:=ja b9;clear b9;go_wp2;clear cd HH HF;(go_loopw [16] (λ_ wq=>wq=w9) (λ_ _=>0));case atStart=>rfl
      case round=>
       subst hrel;go_wp2;go_roundw;(all_goals have bb:=As.a.trans (HI.a.mono As.a.size));(all_goals have HM:q<=w7.heap.size:=by(have h1:=Aa.a.2.1.size;have h2:=HQ.a;omega));case rel=>(repeat apply Exists.intro);refine⟨?_,rfl⟩;obtain⟨u1,u2,R⟩:=Aa.a.1;exact⟨[],_,aL.kept Aa.a.2.2.1 (aI bb none) sj sj,⟨u1,u2,R.below bb⟩,Aa.a.2.1.trans (bb.mono HM),HD.a,.inr ⟨rfl,rfl⟩⟩
       case measure=>rw[aL.kN Aa.a.2.2.1 (aI bb none) sj sj];exact Aa.a.2.2.2
end
end Co
namespace Ad
open Go.RowKit
section
variable {w:World}
theorem eJ (off:Int) (h0:-100<=off) (h1:off<=100) (w:World):Calls prog 256 #[i6 off] w λe w'=>e=.returned (i6 (15-off))/\w=w':=by go_enter func256,ntmps256;go_wp2;go_ret;exact⟨rfl,rfl⟩
theorem gu (a o:Int) (h0:1<=a) (h1:a<=384) (ho: (a-1)%16=o) (w:World):Calls prog 219 #[i6 a] w λe w'=>e=.returned (i6 o)/\w=w':=by have H:=ja ho;clear ho;go_enter func219,ntmps219;go_wp2;go_ret;exact⟨by rw[<-H.a];rfl,rfl⟩
theorem gm (a s o:Int) (h0:1<=a) (h1:a<=384) (hs: (a-1)/16=s) (hs1:s<18) (ho: (a-1)%16=o) (ho0:0<=o) (ho1:o<15) (w:World):Calls prog 217 #[dP,i6 a] w λe w'=>e=.returned (.bool true)/\Bw w w':=by
 have I:=ja (jI · a s h0 h1 hs);have J:lC s=0:=if_pos hs1;rw[J]at I;have HO:=ja (gu a o h0 h1 ho);clear hs ho J;unfold dP at*;go_enter func217,ntmps217;go_upto_region 1 with fail
 obtain⟨k0,R⟩:=box w;generalize w.alloc (.cells #[i6 20,i6 2,i6 1,i6 4] 60)=w0 at*;obtain⟨g,U⟩:=ex w.heap.size;rw[U]at k0|-;obtain⟨x0,x1,x2,x3⟩:=four k0;have B:=ja R;clear k0 R U;go_wp2_with fail
 refine(I.a w0).mono ?_;rintro e j ⟨rfl,b1⟩;have B1:=ja (B.a.trans (b1.mono B.a.size));clear x0 x1 x2 x3 b1;go_wp2_with fail
 refine(HO.a j).mono ?_;rintro e w2 ⟨rfl,rfl⟩;go_wp2_with fail
 refine(eJ o om om j).mono ?_;rintro e w2 ⟨rfl,rfl⟩;have hp: (0:Int)<15-o:=by omega
 go_wp2;go_ret;exact⟨rfl,B1.a⟩
theorem xu (off n:Int) (h0:0<=off) (h1:off<=15) (n0:1<=n) (n1:n<=13) (n2:n<=15-off) (w:World):
 Calls prog 218 #[i6 off,i6 n] w λe w'=>e=.returned (.tuple #[i6 n,.bool (decide (off+(n+1)<15))])/\w=w':=by
 go_enter func218,ntmps218;go_wp2;go_loop [0,6,7] (λa p _=>(a=i6 off/\p=i6 0)\/(a=i6 (off+(n+1))/\p=i6 n)) (λ_ p _=>100-(intOf p).toNat)
 case atStart=>exact .inl ⟨rfl,rfl⟩
 case round=>
  rcases hrel with⟨rfl,rfl⟩|⟨rfl,rfl⟩
  ·have hp: (0:Int)<15-off:=(by omega);have I: (0:Int)<n:=(by omega);(go_wp2_with(refine(eJ off om om w).mono ?_;rintro e w' ⟨rfl,rfl⟩));go_round;case rel=>exact .inr ⟨rfl,rfl⟩
   case measure=>exact ms
  ·(go_wp2_with(refine(eJ (off+(n+1)) om om w).mono ?_;rintro e w' ⟨rfl,rfl⟩));go_ret2;exact⟨rfl,rfl⟩
theorem CU (w:World):
 Calls prog 218 #[i6 0,i6 16] w λe w'=>e=.returned (.tuple #[i6 14,.bool false])/\w=w':=by
 go_enter func218,ntmps218;go_wp2;go_loop [0,6,7] (λa p _=>(a=i6 0/\p=i6 0)\/(a=i6 14/\p=i6 13)\/(a=i6 16/\p=i6 14)) (λ_ p _=>100-(intOf p).toNat)
 case atStart=>exact .inl ⟨rfl,rfl⟩
 case round=>
  rcases hrel with⟨rfl,rfl⟩|⟨rfl,rfl⟩|⟨rfl,rfl⟩
  ·(go_wp2_with(refine(eJ 0 om om w).mono ?_;rintro e w' ⟨rfl,rfl⟩));go_round;case rel=>exact .inr (.inl ⟨rfl,rfl⟩)
   case measure=>simp[intOf]
  ·(go_wp2_with(refine(eJ 14 om om w).mono ?_;rintro e w' ⟨rfl,rfl⟩));go_round;case rel=>exact .inr (.inr ⟨rfl,rfl⟩)
   case measure=>simp[intOf]
  ·(go_wp2_with(refine(eJ 16 om om w).mono ?_;rintro e w' ⟨rfl,rfl⟩));go_ret2;exact⟨rfl,rfl⟩
def db (off n:Int):Int:=if off+(n+1)<15 then 0 else 1
theorem D9 (a s o n:Int) (h0:1<=a) (h1:a<=384) (hs: (a-1)/16=s) (hs1:s<18) (ho: (a-1)%16=o) (ho0:0<=o) (ho1:o<15) (n0:1<=n) (n1:n<=13) (n2:n<=15-o) (w:World):
 Calls prog 167 #[dP,i6 a,i6 n] w (zl w (db o n)):=by
 have HF:=ja (gm a s o h0 h1 hs hs1 ho ho0 ho1);have HO:=ja (gu a o h0 h1 ho);have HW:=ja (xu o n ho0 om n0 n1 n2);clear hs ho;unfold dP at*;go_enter func167,ntmps167;go_upto_region 1 with fail
 obtain⟨k0,U⟩:=box w;generalize w.alloc (.cells #[i6 20,i6 2,i6 1,i6 4] 60)=w0 at*;obtain⟨g,j⟩:=ex w.heap.size;rw[j]at k0|-;obtain⟨x0,x1,x2,x3⟩:=four k0;have B:=ja U;clear k0 U j;have hn:¬n<0:=by omega
 go_wp2_with fail
 refine(HF.a w0).mono ?_;rintro e J ⟨rfl,b1⟩;have B1:=ja (B.a.trans (b1.mono B.a.size));clear x0 x1 x2 x3 b1;go_wp2_with fail
 refine(HO.a J).mono ?_;rintro e w2 ⟨rfl,rfl⟩;go_wp2_with fail
 refine(HW.a J).mono ?_;rintro e w2 ⟨rfl,rfl⟩;by_cases I:o+(n+1)<15
 ·have R:=ja (show db o n=0 from if_pos I);rw[decide_eq_true I];go_wp2;go_ret;exact⟨by rw[R.a];rfl,B1.a⟩
 ·have R:=ja (show db o n=1 from if_neg I);rw[decide_eq_false I];(go_wp2_with fail);refine(CU J).mono ?_;rintro e w2 ⟨rfl,rfl⟩;go_wp2;go_ret;exact⟨by rw[R.a];simp,B1.a⟩
end
end Ad
end Go.Proofs.YtdhgejiacehpbaaGreatDoor
