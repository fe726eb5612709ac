import Derived.Test.YtdhgejiacehpbaaGreatDoorA09
import Derived.StillTailTactics
set_option maxRecDepth 100000
set_option maxHeartbeats 16000000
set_option linter.all false
namespace Go.Proofs.YtdhgejiacehpbaaGreatDoor
open Go.Proofs.Tryz
namespace Co
open Go.RowKit
section
variable {w w':World} {own:Nat->Nat} {i:Nat} {f:Fi}
theorem uU (hr:nW w) (hw:1<w.heap.size) (b:Value) (v:Value) (ns:List Int) (h:Is .i64 w w.heap.size v ns) (hn:∀n∈ns,0<=n/\n<6) (hl:ns.length<=100000):
 Calls prog 221 #[b,v] w λe w'=>e=.returned (.tuple #[])/\Bw w w':=by
 have I:=ja (Rc.CN hr hw v ns h hn hl);clear hr h hn;go_enter func221,ntmps221;go_wp2_with fail
 refine I.a.mono ?_;rintro e J ⟨rfl,R⟩;go_wp2;go_loopw [7,17] (λ_ u wr=>u=i6 0/\wr=J) (λ_ _ _=>0)
 case atStart=>exact⟨rfl,rfl⟩
 case round=>obtain⟨rfl,rfl⟩:=hrel;go_wp2;(first|go_end0|refine bodyPost_ret (results_none rfl _ _ _) rfl ?_);exact⟨rfl,R⟩
theorem C' {base base':Nat} {e:TypeId} {sz n:Nat} {v:Value} {xs:List Value} (h:w.ownsRow base e sz v n xs) (hb:base'<=base):w.ownsRow base' e sz v n xs:=⟨h.1,h.2.imp id λ⟨g,cap,cur,e,I,r⟩=>⟨g,cap,cur,e,Nat.le_trans hb I,r⟩⟩
theorem h_ {P:Program} {K E t:TypeId} {b:Nat} (h:ay w P K b []) (hK:P.underlying K=some (.int .i64)) (ht:P.underlying t=some (.map K E)):
 ∃w' r,(Instr.range t (.map (some b))).run P w=.ok (pt r 0) w'/\(Instr.next (pt r 0) false 0).run P w'=.ok (.tuple #[.bool false]) w'/\Bw w w':=by
 obtain⟨w',J,R,U,_⟩:=aL.start h hK ht;refine⟨w',_,J,?_,bh.grown U lh (λ_ e=>by cases e)⟩;rcases R.step hK 0 with⟨_,j⟩|⟨n,v,o,I,_⟩
 ·exact j
 ·cases I
theorem xF {P:Program} {K:TypeId} {b base:Nat} {e:TypeId} {sz n:Nat} {v:Value} {xs:List Value} {l:KV} (h:w.ownsRow base e sz v n xs) (hm:ay w P K b l):some b≠v.ownBlock:=by
 obtain⟨es,clock,J,_⟩:=hm;rcases h.2 with⟨rfl,_⟩|⟨g,cap,cur,rfl,_,I,_⟩
 ·simp[Value.ownBlock]
 ·intro R;have:b=g:=(by simpa [Value.ownBlock]using R);subst this;rw[J]at I;cases I
theorem IP {vs:List Value} {ks:List Int} {rem:KV} (h: (ks++keys rem).Perm (keys (gT vs))) (hv:vs.length<=6):∀k∈ks,0<=k/\k<6:=λk J=>by have:=h.subset (List.mem_append_left _ J);obtain⟨⟨I,v⟩,hm,rfl⟩:=List.mem_map.1 this;obtain⟨j,R,e⟩:=fA.1 hm;have U:=(List.getElem?_eq_some_iff.1 R).1;show 0<=I/\I<6;omega
def NR (w:World) (e:Ending) (w':World):Prop:=∃u,e=.returned (.tuple #[u,.slice none 0 0])/\w'.ownsRow w.heap.size 3 1 u 0 []/\Bw w w'
theorem kK (h:kB w own i f) (hr:nW w) (hw:1<w.heap.size) (hv:f.vs.length<=6):Calls prog 171 #[pt f.g 0] w (NR w):=by
 have Ax:w.cell? (ae f.g 26)=some (.map (some f.fresh)):=h.blk.cell 26;have H:=ja h;have HR:=ja hr;have HC:=@run_makeMap prog;clear h hr;go_enter func171,ntmps171;go_upto_region 2 with fail
 obtain⟨w1,A5⟩:=ex (w.alloc (.map #[] 0));have m1:ay w1 prog 3 w.heap.size []:=by rw[<-A5];exact ay.made w _ _
 have b1:Bw w w1:=by rw[<-A5];exact bh.alloc lh _
 rw[A5];obtain⟨g1,D3⟩:=ex w.heap.size;rw[D3]at m1|-;refine wp_region_still_tail 11 kj kj ?_;obtain⟨w2,Ah⟩:=ex ({w1 with drawn:=w1.drawn+1}:World);have b2:Bw w1 w2:=by subst Ah;exact(Below.refl _ w1).drew
 rw[Ah];have B2:=ja (b1.trans (b2.mono b1.size));have m2:=m1.ext b2;have H2:=H.a.below B2.a;have d26:w2.cell? (ae f.g 26)=some (.map (some f.fresh)):=H2.blk.cell 26;have d27:w2.cell? (ae f.g 27)=some (.map (some f.bA)):=H2.blk.cell 27;obtain⟨n,hn⟩:∃n:Nat,f.vs.length=n:=⟨_,rfl⟩;have B':=H2.fresh.len underlying152 3;have D5:=H2.bA.len underlying101 3;rw[mg,hn]at B';rw[hn]at hv;have s1:IntKind.i64.wrap ((n:Int)+0)=(n:Int):=by rw[Int.add_zero];exact IntWalk.i64_in _ om
 have s2:IntKind.i64.wrap (n:Int)=(n:Int):=IntWalk.i64_in _ om;clear A5 Ah Ax b1 b2;simp only[td];repeat still_step
 refine wpStill_nil ?_;have Dv:=λW=>AE n om (n:Int) rfl W;clear d26 d27 B' D5 s1 s2;go_upto_region 3 with fail
 have I:=(ak.new w2 3 (madeCells #[i6 0] n)).own (base:=w.heap.size) B2.a.size 0 n 1 (by rw[Array.length_toList,Nat.mul_one];exact size_madeCells _ _) (Nat.zero_le _) (by rw[aq];omega);rw[Nat.zero_mul,List.take_zero]at I;have b3:=(Below.refl w2.heap.size w2).alloc lh (.cells (madeCells #[i6 0] n) 3);generalize w2.alloc (.cells (madeCells #[i6 0] n) 3)=w3 at*;obtain⟨u,hu⟩:∃u,u=Value.slice (some ⟨w2.heap.size,0,none⟩) 0 n:=⟨_,rfl⟩;rw[<-hu]at I|-;have H3:=H2.below b3;have Ax:w3.cell? (ae f.g 26)=some (.map (some f.fresh)):=H3.blk.cell 26;obtain⟨w4,E1,Ao,A6,E4⟩:=aL.start H3.fresh az underlying152;have o:=I.kept A6 (Classical.em _);have b4:Bw w w4:=(B2.a.trans (b3.mono B2.a.size)).grown A6 (Nat.le_trans B2.a.size b3.size) (λ_ e=>by cases e);have Aq:w.heap.size<=w3.heap.size:=Nat.le_trans B2.a.size b3.size;obtain⟨r,Ar⟩:=ex w3.heap.size;rw[Ar]at E1 Ao Aq;have B0:=ja o;have E5:=ja Ao;have HB:=ja b4;have E6:=ja Aq;have E7:=ja (show g1<r by rw[<-Ar];exact(m2.ext b3).lt);have M4:=ja ((m2.ext b3).kept A6 sj);clear hu I o b3 b4 A6 E4 Ao Dv Ar Aq H2 H3 m1 m2;go_wp2;go_loopw [5,6] (λv _ wr=>∃ks rem,wr.ownsRow w.heap.size 3 1 v ks.length (ints ks)/\aL wr prog 3 f.fresh r (gT f.vs) rem/\(ks++keys rem).Perm (keys (gT f.vs))/\Bw w wr/\ay wr prog 3 g1 []) (λ_ _ wr=>wr.rangeLeft f.fresh r)
 case atStart=>exact⟨[],gT f.vs,B0.a,E5.a,List.Perm.refl _,HB.a,M4.a⟩
 case round=>
  obtain⟨ks,rem,I,hR,hp,hb,hm⟩:=hrel;have HD:ks.length<=6:=(by have:=hp.length_eq;unfold keys at this;rw[List.length_append,List.length_map,List.length_map,mg]at this;omega);have E8:w.heap.size<=r:=E6.a;rcases hR.step az 0 with⟨B1,B3⟩|⟨n9,x,w5,Aa,HE,B3,B4,A7,B5,HG,B6⟩
  ·subst B1;have E9:=ja (IP hp om);have HF:=H.a.below hb;have EC:wr.cell? (ae f.g 27)=some (.map (some f.bA)):=HF.blk.cell 27;obtain⟨w6,r6,HH,HI,b6⟩:=h_ HF.bA az underlying101;have A8:=ja (hb.trans (b6.mono hb.size));have EK:=ja (hm.ext b6);have EX:=ja (aD I b6);clear I hR hp hb hm HF b6;go_wp2;(go_loopw [5,7] (λv _ wq=>v=u5/\wq=w6) (λ_ _ _=>0));case atStart=>exact⟨rfl,rfl⟩
   case round=>
    obtain⟨rfl,rfl⟩:=hrel;have B7:=ja (show nW wr/\1<wr.heap.size from⟨λj z hz=>cl A8.a (by show 0<_;omega) (HR.a j z hz),Nat.lt_of_lt_of_le hw A8.a.size⟩);have B8:=bw.aG EX.a;(go_wp2_with fail);refine(uU B7.a.1 B7.a.2 _ _ ks (by unfold Is;exact B8) E9.a om).mono ?_;rintro e w7 ⟨rfl,b7⟩;have B9:=ja (A8.a.trans (b7.mono A8.a.size));have F':=ja (EK.a.ext b7);clear B8 b7;(go_upto_region 14 with fail);obtain⟨w8,A9⟩:=ex (w7.alloc (.map #[] 0));have m8:ay w8 prog 3 w7.heap.size []:=(by rw[<-A9];exact ay.made w7 _ _);have b8:Bw w7 w8:=(by rw[<-A9];exact bh.alloc lh _);rw[A9];obtain⟨g8,BB⟩:=ex w7.heap.size;rw[BB]at m8|-;have As:=ja (B9.a.trans (b8.mono B9.a.size));have F0:=ja (F'.a.ext b8);have F1:=ja m8;have F8:=H.a.below As.a;have F2:w8.cell? (ae f.g 28)=some (.map (some f.lost)):=F8.blk.cell 28;have F3:=ja (kZ F8.lost fR (Nat.zero_le _));clear A9 m8 b8 BB F8 EC;(go_wp2_with fail);refine F3.a.mono ?_;rintro e w9 ⟨v9,rfl,A',b9⟩;have Ab:=bw.aG A';have AI:=ja (As.a.trans (b9.mono As.a.size));have F4:=ja (F0.a.ext b9);have F5:=ja (F1.a.ext b9);have Ad:=ja (show nW w9/\1<w9.heap.size from⟨λj z hz=>cl AI.a (by show 0<_;omega) (HR.a j z hz),Nat.lt_of_lt_of_le hw AI.a.size⟩);clear A' b9;(go_wp2_with fail);refine(uU Ad.a.1 Ad.a.2 _ _ [] Ab (λ_ h=>by cases h) (Nat.zero_le _)).mono ?_;rintro e F6 ⟨rfl,AR⟩;have A0:=ja (AI.a.trans (AR.mono AI.a.size));have BO:=ja (F4.a.ext AR);have Au:=H.a.below A0.a;have HK:F6.cell? (ae f.g 29)=some (.map (some f.nodes)):=Au.blk.cell 29;obtain⟨F7,HL,H6,H7,kT⟩:=h_ Au.nodes az underlying101;have BQ:=ja (BO.a.ext kT);have Bg:=ja ((F5.a.ext AR).ext kT);have Ae:=ja (A0.a.trans (kT.mono A0.a.size));clear Ab AR kT Au F2;go_wp2;(go_loopw [10] (λ_ wq=>wq=F7) (λ_ _=>0));case atStart=>rfl
    case round=>
     subst hrel;obtain⟨FZ,HM,H9,HA,Av⟩:=h_ Bg.a az underlying101;have Bt:=ja (BQ.a.ext Av);have A1:=ja (Ae.a.trans (Av.mono Ae.a.size));clear Av;go_wp2;(go_loopw [3,11,12,13,14,15] (λv _ _ _ _ _ wq=>v=.slice none 0 0/\wq=FZ) (λ_ _ _ _ _ _ _=>0));case atStart=>exact⟨rfl,rfl⟩
     case round=>obtain⟨rfl,rfl⟩:=hrel;have Bu:=ja (kZ Bt.a fR (Nat.zero_le _));(go_wp2_with fail);refine Bu.a.mono ?_;rintro e G1 ⟨HN,rfl,J,By⟩;obtain⟨G2,G5,rfl⟩:=dZ J;have C4:=ja J;have CC:=ja (A1.a.trans (By.mono A1.a.size));have HS:=ja A1.a.size;clear J By;(go_wp2_with fail);refine(Tryz.slices_Reverse_int_empty G2 G5 G1).mono ?_;rintro e G7 ⟨rfl,rfl⟩;(go_wp2_with fail);refine(Tryz.slices_Sort_int_none none 0 G7).mono ?_;rintro e HO ⟨rfl,rfl⟩;go_wp2;go_ret2;exact⟨_,rfl,C' C4.a HS.a,CC.a⟩
  ·have Cd:some r≠u5.ownBlock:=(by obtain⟨left,G8,h9,_,_⟩:=hR;exact row_ne_iter I h9);have A2:=I.kept A7 (by
    cases h9:u5.ownBlock with
    |none=>exact .inl rfl
    |some j=>exact .inr (λe=>Cd (by rw[h9,e])))
   have Aw:Bw w w5:=hb.grown A7 hb.size (λj e=>by cases e;exact E8);have H0:=H.a.fresh.lt;have H4:g1≠r:=(by have:=E7.a;omega);have H0:f.fresh≠r:=λe=>(by have:=H.a.fresh.lt;omega);have HQ:=ja (⟨B4,hp,Aa,B6,Aw,hm.kept A7 (λe=>H4 (Option.some.inj e))⟩:aL w5 prog 3 f.fresh r (gT f.vs) (bf rem n9)/\(ks++keys rem).Perm (keys (gT f.vs))/\(n9,x)∈rem/\w5.rangeLeft f.fresh r<wr.rangeLeft f.fresh r/\Bw w w5/\ay w5 prog 3 g1 []);have A3:=ja A2;have H5:=ja (kJ hR (mK f.vs));have Co:=Aw.size;have HP:ks.length+1<=7:=(by omega);clear I hR hp hb hm Aa A7 B5 B6 B4 A2 Cd Aw;(go_wp2_with(at_builtin;refine bT ?_));refine aH rfl _ _ rfl rfl rfl sj underlying50 Sq.cI rfl dc A3.a rfl (by simp[Value.oneCell']) (by rw[aq];omega) om Co ?_;intro v8 w8 A4 R;have U:∀q,q<w.heap.size\/q=r\/q=g1->some q≠u5.ownBlock:=λq hq e=>by
    rcases hq with hq|hq|hq
    ·have:=(A3.a.lt q e.symm).1;omega
    ·subst hq;obtain⟨left,G8,h9,_,_⟩:=HQ.a.1;exact row_ne_iter A3.a h9 e
    ·subst hq;exact xF A3.a HQ.a.2.2.2.2.2 e
   have D0:=H.a.fresh.lt;have HX:=je A4 (HQ.a.1.kept R (U _ (.inl D0)) (U r (.inr (.inl rfl)))) (HQ.a.1.kN R (U _ (.inl D0)) (U r (.inr (.inl rfl)))) (HQ.a.2.2.2.2.1.grown R Co (λj e=>(A3.a.lt j e).1)) (HQ.a.2.2.2.2.2.kept R (U g1 (.inr (.inr rfl))));clear A4 R U;go_wp2;go_roundw;case rel=>
    refine⟨ks++[n9],bf rem n9,?_,HX.b,?_,HX.d,HX.e⟩
    ·unfold ints;rw[List.length_append,List.map_append];exact HX.a
    ·rw[List.append_assoc];have h1: (n9::keys (bf rem n9)).Perm (keys rem):=(List.perm_append_singleton _ _).symm.trans (oS H5.a HQ.a.2.2.1).symm;exact(h1.append_left ks).trans HQ.a.2.1
   case measure=>rw[HX.c];exact HQ.a.2.2.2.1
end
end Co
namespace Co
open Go.RowKit
section
variable {w w':World} {c:C} {fs:List Fi}
def wY (cL l:KV):Prop:=bY l/\(∀y∈l,y.1=0\/y∈cL)/\(∀y∈cL,∃v,bK l y.1=some v)
theorem wY.put {cL l:KV} (h:wY cL l) (v:Value):wY cL (dk l 0 v):=by
 refine⟨mJ h.1 _ _,λy I=>?_,λy I=>?_⟩
 ·rcases j6.1 I with rfl|I
  ·exact .inl rfl
  ·exact h.2.1 y (j5.1 I).1
 ·rw[fW];by_cases e: (0:Int)=y.1
  ·exact⟨v,by rw[if_pos e]⟩
  ·rw[if_neg e];exact h.2.2 y I
theorem wY.one {l:KV} (h:wY [] l):l.length<=1:=by
 match l,h with
 |[],_=>exact Nat.zero_le _
 |[_],_=>exact Nat.le_refl _
 |x::y::r,h=>have I:=h.1;unfold bY at I;have J:=(List.pairwise_cons.1 I).1 y List.mem_cons_self;have R:=(h.2.1 x List.mem_cons_self).resolve_right sj;have U:=(h.2.1 y (List.mem_cons_of_mem _ List.mem_cons_self)).resolve_right sj;omega
theorem Fx {l:KV} {y:Int×Value} (h:y∈l):∃v,bK l y.1=some v:=by refine Option.isSome_iff_exists.1 ?_;unfold bK;rw[Option.isSome_map,List.find?_isSome];exact⟨y,h,decide_eq_true rfl⟩
theorem jx {P:Program} {K:TypeId} {b r:Nat} {l rem:KV} (h:aL w P K b r l rem):∀y∈rem,y∈l:=by
 obtain⟨left,I,_,rfl,_⟩:=h
 exactλy J=>(List.mem_filter.1 J).1
theorem xR {rem:KV} {k:Int} {v:Value} (h: (k,v)∈rem): (bf rem k).length+1<=rem.length:=by unfold bf;exact List.length_filter_lt_length_iff_exists.2 ⟨(k,v),h,by simp⟩
theorem zR (l:KV) (k:Int) (v:Value): (dk l k v).length<=l.length+1:=by
 have ins:∀(x:Int×Value) (l:KV),(dO x l).length=l.length+1:=by
  intro x l;induction l with
  |nil=>rfl
  |cons y r ih=>unfold dO;split<;>simp[ih]
 unfold dk;rw[ins];have:=List.length_filter_le (λy:Int×Value=> !decide (y.1=k)) l;unfold bf;omega
theorem vS {cL l:KV} {b:Nat} (hm:ay w prog 3 b l) (hs:wY cL l) (hl:l.length<=100000) (v:Value):
 ∃w' l',(Instr.mapUpdate 101 (.map (some b)) (i6 0) v).run prog w=.ok () w'/\ay w' prog 3 b l'/\wY cL l'/\l'.length<=l.length+1/\w.mapTurned w' b:=by
 obtain⟨w',I,J,R⟩:=ay.store hm az underlying101 (by rw[aq];omega) 0 dc v;exact⟨w',_,I,J,hs.put v,zR _ _ _,R⟩
def JY (w:World) (c:C) (e:Ending) (w':World):Prop:=∃b l,e=.returned (.map (some b))/\ay w' prog 3 b l/\wY c.cL l/\w.heap.size<=b/\Bw w w'
theorem g_ (h:bD w c fs) (hf:fs.length<=8) (hs:bY c.cL) (hsl:c.cL.length<=100) (hg:∀y∈c.b_,0<=y.1/\y.1<10) (hgl:c.b_.length<=100) (hv:∀f∈fs,f.vs.length<=100000):
 Calls prog 169 #[pt c.g 0] w (JY w c):=by
 have B3:w.cell? (ae c.g 168)=some (.map (some c.aB)):=(h.cell _).trans (eF h.len);have H:=ja h;have HG:=ja hg;have HV:=ja hv;have HC:=ja (dK h.aB);have Bt:=ja (⟨hs,λy hy=>.inr hy,λy hy=>Fx hy⟩:wY c.cL c.cL);clear h hg hv hs;go_enter func169,ntmps169;go_wp2_with fail
 refine HC.a.mono ?_;rintro e w1 ⟨b,rfl,B4,_,Ah,b1⟩;have A2:=ja (Nat.le_of_eq B4.out.symm);have H1:=H.a.below b1;have EC:w1.cell? (ae c.g 167)=some (.map (some c.gone)):=(H1.cell _).trans (jq H1.len);obtain⟨w2,Bu,Ao,Aq,By⟩:=aL.start H1.gone az underlying101;have A3:=Ah.lt;obtain⟨r,Ar⟩:=ex w1.heap.size;rw[Ar]at Bu Ao;have B5:=ja (show b<r/\w.heap.size<=r by rw[<-Ar];exact⟨A3,b1.size⟩);have C4:=ja (b1.grown Aq b1.size (λ_ e=>by cases e));have CC:=ja (Ah.kept Aq sj);have Cd:=ja Ao;clear H1 Ah Aq By Ar A3 b1 B3 Ao B4;go_wp2;go_loopw [4] (λ_ wr=>∃l rem,ay wr prog 3 b l/\wY c.cL l/\l.length+rem.length<=200/\aL wr prog 3 c.gone r c.b_ rem/\Bw w wr) (λ_ wr=>wr.rangeLeft c.gone r)
 case atStart=>exact⟨c.cL,c.b_,CC.a,Bt.a,by omega,Cd.a,C4.a⟩
 case round=>
  obtain⟨l,rem,hm,A',B6,hR,hb⟩:=hrel;rcases hR.step az 0 with⟨A4,Ad⟩|⟨n9,x,w5,A5,F',Ad,As,Au,B7,F0,B8⟩
  ·subst A4;have H3:=H.a.below hb;have c6:wr.cell? (ae c.g 6)=some (.map (some c.files)):=(H3.cell _).trans (cg H3.len);obtain⟨w3,Co,Av,Aw,D0⟩:=aL.start H3.files az underlying95;obtain⟨r3,A6⟩:=ex wr.heap.size;rw[A6]at Co Av;have A3:=hm.lt;have A7:=ja (show b<r3/\w.heap.size<=r3 by rw[<-A6];exact⟨A3,hb.size⟩);have D3:=ja (hb.grown Aw hb.size (λ_ e=>by cases e));have D5:=ja (hm.kept Aw sj);have Dv:=ja Av;have B9:=ja (show wY c.cL l/\l.length+(kC fs).length<=300 by rw[jZ];exact⟨A',by omega⟩);clear hm A' B6 hR hb H3 Av Aw D0 A6 A3;go_wp2;(go_loopw [5,6] (λ_ _ wq=>∃l rem,ay wq prog 3 b l/\wY c.cL l/\l.length+rem.length<=300/\aL wq prog 3 c.files r3 (kC fs) rem/\Bw w wq) (λ_ _ wq=>wq.rangeLeft c.files r3));case atStart=>exact⟨l,kC fs,D5.a,B9.a.1,B9.a.2,Dv.a,D3.a⟩
   case round=>
    obtain⟨l2,A0,Aa,I,A8,Ab,A9⟩:=hrel;rcases Ab.step az 0 with⟨A4,Ad⟩|⟨n8,x8,w6,U,EK,E1,BB,Ax,BO,EX,Ae⟩
    ·subst A4;have HZ:=jc Aa I A9;clear Aa I A8 Ab A9;go_wp2;go_ret;exact⟨b,l2,rfl,HZ.a,HZ.b,A2.a,HZ.c⟩
    ·obtain⟨j,f,hj,E4,rfl⟩:=gK (jx Ab _ U);have E5:=(List.getElem?_eq_some_iff.1 hj).1;have B':=A9.grown Ax A9.size (λq e=>by cases e;exact A7.a.2);have h0:0<=n8:=(by omega);have E6:n8<10:=(by omega);have hd:n8/10=0:=(by omega);have F6:=(H.a.fi j f hj).below B';have E7:=ja (jR F6 (HV.a f (List.mem_of_getElem? hj)));have BQ:=Aa.kept Ax (λe=>by have:=Option.some.inj e;have:=A7.a.1;omega);have HQ:=ja (⟨BQ,I,Nat.le_trans (Nat.add_le_add_left (xR U) _) A8,BB,B',Ae⟩:ay w6 prog 3 b l2/\wY c.cL l2/\l2.length+((bf A0 n8).length+1)<=300/\aL w6 prog 3 c.files r3 (kC fs) (bf A0 n8)/\Bw w w6/\w6.rangeLeft c.files r3<wr.rangeLeft c.files r3);clear Aa I A8 Ab A9 U BB Ax BO Ae hj E4 E5 B' F6 BQ;(go_wp2_with fail);refine E7.a.mono ?_;rintro e w7 ⟨bb,rfl,_,b7⟩;have R:=ja b7;clear b7;cases bb with
     |false=>
      go_wp2;go_roundw;case rel=>obtain⟨q1,q2,q3,q4,q5,_⟩:=HQ.a;exact⟨l2,_,q1.ext R.a,q2,by omega,q4.kept (aI R.a none) sj sj,q5.trans (R.a.mono q5.size)⟩
      case measure=>rw[HQ.a.2.2.2.1.kN (aI R.a none) sj sj];exact HQ.a.2.2.2.2.2
     |true=>
      obtain⟨q1,q2,q3,q4,q5,q6⟩:=HQ.a;have A1:b≠c.files:=λe=>(by have h1:=A2.a;have h2:=H.a.files.lt;omega);have o:r3≠b:=λe=>(by have:=A7.a.1;omega);obtain⟨w8,l8,E8,AI,AR,B0,J⟩:=vS (q1.ext R.a) q2 om (.agg #[]);have B1:=q4.kept (aI R.a none) sj sj;have e1:some c.files≠some b:=λe=>A1 (Option.some.inj e).symm;have e2:some r3≠some b:=λe=>o (Option.some.inj e);have B2:=q5.trans (R.a.mono q5.size);have HX:=ja (⟨AI,AR,by omega,B1.kept J.grown e1 e2,B2.grown J.grown B2.size (λq e=>by cases e;exact A2.a),by rw[B1.kN J.grown e1 e2,q4.kN (aI R.a none) sj sj];exact q6⟩:ay w8 prog 3 b l8/\wY c.cL l8/\l8.length+(bf A0 n8).length<=300/\aL w8 prog 3 c.files r3 (kC fs) (bf A0 n8)/\Bw w w8/\w8.rangeLeft c.files r3<wr.rangeLeft c.files r3);clear q1 q2 q3 q4 q5 q6 AI AR B0 J B1 B2 e1 e2 A1 o;go_wp2;go_roundw;case rel=>exact⟨l8,_,HX.a.1,HX.a.2.1,HX.a.2.2.1,HX.a.2.2.2.1,HX.a.2.2.2.2.1⟩
      case measure=>exact HX.a.2.2.2.2.2
  ·have hy:=HG.a _ (jx hR _ A5);have h0:0<=n9:=hy.1;have E6:n9<10:=hy.2;have hd:n9/10=0:=(by omega);have A1:some c.gone≠some b:=λe=>(by have h1:=A2.a;have h2:=H.a.gone.lt;have:=Option.some.inj e;omega);have o:some r≠some b:=λe=>(by have:=B5.a.1;have:=Option.some.inj e;omega);have Bg:some b≠some r:=λe=>o e.symm;have E9:=xR A5;obtain⟨w8,l8,E8,AI,AR,B0,J⟩:=vS (hm.kept Au Bg) A' om (.agg #[]);have b5:=hb.grown Au hb.size (λq e=>by cases e;exact B5.a.2);have HX:=ja (⟨AI,AR,by omega,As.kept J.grown A1 o,b5.grown J.grown b5.size (λq e=>by cases e;exact A2.a),by rw[As.kN J.grown A1 o];exact B8⟩:ay w8 prog 3 b l8/\wY c.cL l8/\l8.length+(bf rem n9).length<=200/\aL w8 prog 3 c.gone r c.b_ (bf rem n9)/\Bw w w8/\w8.rangeLeft c.gone r<wr.rangeLeft c.gone r);clear hm A' B6 hR hb A5 As Au B7 B8 AI AR B0 J b5 A1 o Bg E9 hy;go_wp2;go_roundw;case rel=>exact⟨l8,_,HX.a.1,HX.a.2.1,HX.a.2.2.1,HX.a.2.2.2.1,HX.a.2.2.2.2.1⟩
   case measure=>exact HX.a.2.2.2.2.2
def NM (w:World) (fs:List Fi) (e:Ending) (w':World):Prop:=∃n:Nat,e=.returned (i6 (n:Int))/\n<=1+4*fs.length/\Bw w w'
theorem yh (h:bD w c fs) (hf:fs.length<=8) (hs:c.cL=[]) (hg:∀y∈c.b_,0<=y.1/\y.1<10) (hgl:c.b_.length<=100) (hv:∀f∈fs,f.vs.length<=3):
 Calls prog 123 #[pt c.g 0] w (NM w fs):=by
 have HC:=ja (g_ h hf (by rw[hs];exact fR) (by rw[hs];exact Nat.zero_le _) hg hgl (λf hf=>by have:=hv f hf;omega));have H:=ja h;have HV:=ja hv;have Ar:=ja hs;clear h hg hv hs;go_enter func123,ntmps123;go_wp2_with fail
 refine HC.a.mono ?_;rintro e w1 ⟨b,l,rfl,A5,J,_,b1⟩;rw[Ar.a]at J;have As:=J.one;have Au:=A5.len underlying101 3;obtain⟨m,A6⟩:∃m:Nat,l.length=m:=⟨_,rfl⟩;rw[A6]at Au As;have H1:=H.a.below b1;have c6:w1.cell? (ae c.g 6)=some (.map (some c.files)):=(H1.cell _).trans (cg H1.len);obtain⟨w3,Av,A2,A7,Aw⟩:=aL.start H1.files az underlying95;obtain⟨r3,R⟩:=ex w1.heap.size;rw[R]at Av A2;have A9:=ja (show w.heap.size<=r3 by rw[<-R];exact b1.size);have Ax:=ja (b1.grown A7 b1.size (λ_ e=>by cases e));have B':=ja A2;clear H1 A5 J A2 A7 Aw R b1 A6;go_wp2;go_loopw [3,5,6,7] (λu _ _ _ wq=>∃n:Nat,u=i6 (n:Int)/\∃rem,aL wq prog 3 c.files r3 (kC fs) rem/\n+4*rem.length<=1+4*fs.length/\Bw w wq) (λ_ _ _ _ wq=>wq.rangeLeft c.files r3)
 case atStart=>exact⟨m,rfl,kC fs,B'.a,by rw[jZ];omega,Ax.a⟩
 case round=>
  obtain⟨n,rfl,AI,A0,B0,U⟩:=hrel;rcases A0.step az 0 with⟨AR,B9⟩|⟨n8,x8,w6,I,BB,B1,Aa,Ab,Ad,BO,A1⟩
  ·subst AR;have HZ:=ja U;clear A0 U;go_wp2;go_ret;exact⟨n,rfl,by simpa using B0,HZ.a⟩
  ·obtain⟨j,f,hj,B2,rfl⟩:=gK (jx A0 _ I);have A3:=U.grown Ab U.size (λq e=>by cases e;exact A9.a);have B3:=HV.a f (List.mem_of_getElem? hj);have F6:=(H.a.fi j f hj).below A3;have B4:=ja (jR F6 om);have Ae:=ja (H.a.fi j f hj);have BQ:=xR I;have HQ:=ja (⟨Aa,A3,A1⟩:aL w6 prog 3 c.files r3 (kC fs) (bf AI n8)/\Bw w w6/\w6.rangeLeft c.files r3<wr.rangeLeft c.files r3);clear A0 U I Aa Ab Ad A1 hj B2 A3 F6;(go_wp2_with fail);refine B4.a.mono ?_;rintro e w7 ⟨bb,rfl,_,b7⟩;have o:=ja (HQ.a.2.1.trans (b7.mono HQ.a.2.1.size));have A4:=ja (HQ.a.1.kept (aI b7 none) sj sj);have Ah:=ja (show w7.rangeLeft c.files r3<wr.rangeLeft c.files r3 by rw[HQ.a.1.kN (aI b7 none) sj sj];exact HQ.a.2.2);clear b7;cases bb with
   |false=>
    go_wp2;go_roundw;case rel=>exact⟨n,rfl,_,A4.a,by omega,o.a⟩
    case measure=>exact Ah.a
   |true=>
    have Ao:=ja (H.a.gl.below o.a);have B5:=ja (kK (Ae.a.below o.a) Ao.a.D_ Ao.a.lt om);(go_wp2_with fail);refine B5.a.mono ?_;rintro e w8 ⟨u8,rfl,A',b8⟩;obtain⟨A8,k8,rfl⟩:=dZ A';have Aq:=ja (o.a.trans (b8.mono o.a.size));have F8:=Ae.a.below Aq.a;have Bg:w8.cell? (ae f.g 26)=some (.map (some f.fresh)):=F8.blk.cell 26;have B6:=F8.fresh.len underlying152 3;obtain⟨k,hk⟩:∃k:Nat,f.vs.length=k:=⟨_,rfl⟩;rw[mg,hk]at B6;rw[hk]at B3;have B7:=ja (A4.a.kept (aI b8 none) sj sj);have B8:=ja (show w8.rangeLeft c.files r3<wr.rangeLeft c.files r3 by rw[A4.a.kN (aI b8 none) sj sj];exact Ah.a);have Bt:n<=100:=(by omega);clear A' b8 F8 hk;go_wp2;go_roundw;case rel=>exact⟨n+(k+1),by go_num,_,B7.a,by omega,Aq.a⟩
    case measure=>exact B8.a
end
end Co
namespace Lb
open Pk (iQ bO)
open Crc (bR)
def sC (d l v s:Int):Bool:=decide (8<=d/\d<=256/\1<=l/\l<=d-6/\0<=v/\v<=8/\1<=s/\s<=256)
def lV (v g:Int):Bool:=decide (0<=v/\v<8/\0<=g/\g<=4294967295)
def qz:List Int:=[4,2,2,1,2]
def uM:List Int:=[4,1,4]
def qn (d l v s:Nat):List Nat:=[1751218541,d,l,v,s]
def tN (v g:Nat):List Nat:=[1752592236,v,g]
def za (d l v s:Nat):List UInt8:=bR (bO (qz.zip (qn d l v s)))
def xZ (v g:Nat):List UInt8:=bR (bO (uM.zip (tN v g)))
theorem I7 (d l v s:Nat) (h:sC d l v s=true):∀x∈qz.zip (qn d l v s),iQ x=0:=by unfold sC at h;rw[decide_eq_true_iff]at h;intro x hx;simp only[qz,qn,List.zip_cons_cons,List.zip_nil_right,List.mem_cons,List.not_mem_nil,or_false]at hx;rcases hx with rfl|rfl|rfl|rfl|rfl<;>refine Pk.dy rfl ?_<;>simp<;>omega
theorem Hl (v g:Nat) (h:lV v g=true):∀x∈uM.zip (tN v g),iQ x=0:=by unfold lV at h;rw[decide_eq_true_iff]at h;intro x hx;simp only[uM,tN,List.zip_cons_cons,List.zip_nil_right,List.mem_cons,List.not_mem_nil,or_false]at hx;rcases hx with rfl|rfl|rfl<;>refine Pk.dy rfl ?_<;>simp<;>omega
theorem uI (d l v s:Nat): (bO (qz.zip (qn d l v s))).length=11:=Cd.fh qz (qn d l v s) rfl
theorem wI (v g:Nat): (bO (uM.zip (tN v g))).length=9:=Cd.fh uM (tN v g) rfl
end Lb
namespace LabW
open Go.RowKit
theorem dz (lo hi:Int) (w:World):
 Calls prog 97 #[i6 lo,i6 hi] w λe w'=>e=.returned (.func (.func 152) #[] #[pt w.heap.size 0,pt (w.heap.size+1) 0])/\w'=(w.alloc (.cells #[i6 lo] 3)).alloc (.cells #[i6 hi] 3):=by
 go_enter func97,ntmps97;go_wp2;go_ret;exact⟨rfl,rfl⟩
def uG (lo hi n:Int):Bool:=decide (lo<=n/\n<=hi)
theorem dh (n lo hi:Int) (g1 g2:Nat) (w:World) (h1:w.cell? (ae g1 0)=some (i6 lo)) (h2:w.cell? (ae g2 0)=some (i6 hi)):
 Calls prog 152 #[i6 n,pt g1 0,pt g2 0] w λe w'=>e=.returned (.bool (uG lo hi n))/\w=w':=by
 by_cases I:lo<=n
 ·have H:=ja (show uG lo hi n=decide (n<=hi) by unfold uG;simp[I]);go_enter func152,ntmps152;go_wp2;go_ret;exact⟨by rw[H.a];rfl,rfl⟩
 ·have H:=ja (show uG lo hi n=false by unfold uG;simp[I]);go_enter func152,ntmps152;go_wp2;go_ret;exact⟨by rw[H.a];rfl,rfl⟩
theorem jw {w:World} (a b:Value) (t:TypeId):Bw w ((w.alloc (.cells #[a] t)).alloc (.cells #[b] t))/\((w.alloc (.cells #[a] t)).alloc (.cells #[b] t)).cell? (ae w.heap.size 0)=some a/\((w.alloc (.cells #[a] t)).alloc (.cells #[b] t)).cell? (ae (w.heap.size+1) 0)=some b/\w.heap.size+1<((w.alloc (.cells #[a] t)).alloc (.cells #[b] t)).heap.size:=by
 refine⟨(bh.alloc lh _).alloc sj _,?_,?_,by simp⟩
 ·simp
 ·simp
theorem IY (d l v s:Int):Lb.sC d l v s=(uG 8 256 d&&(uG 0 8 v&&(uG 1 256 s&&uG 1 (d-6) l))):=by unfold Lb.sC uG;rw[Bool.eq_iff_iff];simp only[Bool.and_eq_true,decide_eq_true_eq];omega
theorem jN (d l v s:Int) (w:World) (hd:-9223372036854775808<=d/\d<=9223372036854775807):
 Calls prog 49 #[.agg #[i6 d,i6 l,i6 v,i6 s]] w λe w'=>e=.returned (.bool (Lb.sC d l v s))/\Bw w w':=by
 have I:=ja (IY d l v s);go_enter func49,ntmps49;go_wp2_with fail
 have hk:=ak.new w 60 #[i6 d,i6 l,i6 v,i6 s];have U:=(Below.refl w.heap.size w).alloc lh (.cells #[i6 d,i6 l,i6 v,i6 s] 60);generalize w.alloc (.cells #[i6 d,i6 l,i6 v,i6 s] 60)=w0 at*;refine(dz 8 256 _).mono ?_;rintro e j ⟨rfl,o⟩;obtain⟨b1,x1,y1,z1⟩:=jw (w:=w0) (i6 8) (i6 256) 3;rw[<-o]at b1 x1 y1 z1;clear o;have k1:=hk.ext b1;have c1:=U.trans (b1.mono U.size);go_wp2_with fail
 refine(dz 0 8 _).mono ?_;rintro e w2 ⟨rfl,A'⟩;obtain⟨R,x2,y2,z2⟩:=jw (w:=j) (i6 0) (i6 8) 3;rw[<-A']at R x2 y2 z2;clear A';have k2:=k1.ext R;have c2:=c1.trans (R.mono c1.size);have A0:=cl R (show w0.heap.size<j.heap.size by omega) x1;have A1:=cl R (show w0.heap.size+1<j.heap.size by omega) y1;go_wp2_with fail
 refine(dz 1 256 _).mono ?_;rintro e w3 ⟨rfl,A2⟩;obtain⟨J,x3,y3,z3⟩:=jw (w:=w2) (i6 1) (i6 256) 3;rw[<-A2]at J x3 y3 z3;clear A2;have k3:=k2.ext J;have c3:=c2.trans (J.mono c2.size);have s2:=R.size;have A3:=cl J (show w0.heap.size<w2.heap.size by omega) A0;have A4:=cl J (show w0.heap.size+1<w2.heap.size by omega) A1;have A6:=cl J (show j.heap.size<w2.heap.size by omega) x2;have A7:=cl J (show j.heap.size+1<w2.heap.size by omega) y2;clear x1 y1 A0 A1 x2 y2 b1 R J k1 k2 c1 c2;have g0:=k3.cell 0;have g1:=k3.cell 1;have g2:=k3.cell 2;have g3:=k3.cell 3;simp only[List.getElem?_cons_zero,List.getElem?_cons_succ]at g0 g1 g2 g3;go_wp2_with fail
 refine(dh d 8 256 _ _ _ A3 A4).mono ?_;rintro e w' ⟨rfl,rfl⟩;cases h1:uG 8 256 d with
 |false=>rw[h1,Bool.false_and]at I;clear h1;go_wp2;go_ret;exact⟨by rw[I.a];rfl,c3⟩
 |true=>
  rw[h1,Bool.true_and]at I;have A8:8<=d/\d<=256:=(by unfold uG at h1;exact of_decide_eq_true h1);clear h1;(go_wp2_with fail);refine(dh v 0 8 _ _ _ A6 A7).mono ?_;rintro e w' ⟨rfl,rfl⟩;cases h1:uG 0 8 v with
  |false=>rw[h1,Bool.false_and]at I;clear h1;go_wp2;go_ret;exact⟨by rw[I.a];rfl,c3⟩
  |true=>
   rw[h1,Bool.true_and]at I;clear h1;(go_wp2_with fail);refine(dh s 1 256 _ _ _ x3 y3).mono ?_;rintro e w' ⟨rfl,rfl⟩;cases h1:uG 1 256 s with
   |false=>rw[h1,Bool.false_and]at I;clear h1;go_wp2;go_ret;exact⟨by rw[I.a];rfl,c3⟩
   |true=>rw[h1,Bool.true_and]at I;clear h1;(go_wp2_with fail);refine(dz 1 (d-6) _).mono ?_;rintro e w4 ⟨rfl,A5⟩;obtain⟨b4,x4,y4,z4⟩:=jw (w:=w3) (i6 1) (i6 (d-6)) 3;rw[<-A5]at b4 x4 y4 z4;clear A5 g0 g1 g2 g3;have k4:=k3.ext b4;have c4:=c3.trans (b4.mono c3.size);have g1:=k4.cell 1;simp only[List.getElem?_cons_zero,List.getElem?_cons_succ]at g1;(go_wp2_with fail);refine(dh l 1 (d-6) _ _ _ x4 y4).mono ?_;rintro e w' ⟨rfl,rfl⟩;go_wp2;go_ret;exact⟨by rw[I.a];rfl,c4⟩
theorem xA (v g:Int) (w:World):
 Calls prog 109 #[i6 v,i6 g] w λe w'=>e=.returned (.bool (Lb.lV v g))/\w=w':=by
 by_cases I:0<=v
 ·by_cases J:v<8
  ·by_cases R:0<=g
   ·have H:=ja (show Lb.lV v g=decide (g<=4294967295) by unfold Lb.lV;simp[I,J,R]);go_enter func109,ntmps109;go_wp2;go_ret;exact⟨by rw[H.a];rfl,rfl⟩
   ·have H:=ja (show Lb.lV v g=false by unfold Lb.lV;simp[R]);go_enter func109,ntmps109;go_wp2;go_ret;exact⟨by rw[H.a];rfl,rfl⟩
  ·have H:=ja (show Lb.lV v g=false by unfold Lb.lV;simp[J]);go_enter func109,ntmps109;go_wp2;go_ret;exact⟨by rw[H.a];rfl,rfl⟩
 ·have H:=ja (show Lb.lV v g=false by unfold Lb.lV;simp[I]);go_enter func109,ntmps109;go_wp2;go_ret;exact⟨by rw[H.a];rfl,rfl⟩
theorem F_ (wd:Int) (v:Nat) (w:World) (hv:v<9223372036854775808):
 Calls prog 102 #[i6 wd,i6 (v:Int)] w λe w'=>e=.returned (.agg #[i6 wd,.int .u64 (v:Int)])/\Bw w w':=by
 go_enter func102,ntmps102;go_wp2;refine bodyPost_ret (v:=.agg #[i6 wd,.int .u64 (v:Int)]) (by simp[results,results102,go_sem]) rfl ⟨rfl,?_⟩;exact bh.alloc lh _
theorem rA (w:World) (v:Value) (L:List (Int×Nat)) (hG:a7 w) (h:ee w w.heap.size v L) (hn:L.length<=100) (hu:∀x∈L,x.2<18446744073709551616) (hc:∀x∈L,Pk.iQ x=0) (hl: (Pk.bO L).length<=124):
 Calls prog 101 #[v] w λe w'=>∃u,e=.returned (.tuple #[u,i6 0])/\ju w.heap.size w' u (Crc.bR (Pk.bO L))/\Bw w w':=by
 have hp:=Pk.iM hc;have o:Pk.packed L=Pk.bO L:=by unfold Pk.packed;rw[if_pos hp]
 go_enter func101,ntmps101;go_wp2_with fail
 refine(ic _ _ _ L h lh om hu).mono ?_;rintro e w1 ⟨u,rfl,I,R⟩;rw[hp];rw[o]at I;have hs:Bs w1 w1.heap.size u (Pk.bO L):=Bs.aG I;clear I hp o;go_wp2_with fail
 refine(lJ _ _ _ _ (hG.ext R) hs lh hl).mono ?_;rintro e w2 ⟨u2,rfl,J,U⟩;have j:ju w.heap.size w2 u2 (Crc.bR (Pk.bO L)):=ju.aG (by rw[Crc.bH _ hl];exact J) R.size;go_wp2;go_ret2;exact⟨_,rfl,j,R.trans (U.mono R.size)⟩
end LabW
namespace Ad
open Go.RowKit
open LabW (dz dh jw jN uG)
def dP:Value:=.agg #[i6 20,i6 2,i6 1,i6 4]
theorem cP (w:World):Calls prog 49 #[dP] w λe w'=>e=.returned (.bool true)/\Bw w w':=jN 20 2 1 4 w dc
def zl (w:World) (n:Int) (e:Ending) (w':World):Prop:=e=.returned (i6 n)/\Bw w w'
def MN (w:World) (n:Int) (e:Ending) (w':World):Prop:=e=.returned (.tuple #[i6 n,i6 0])/\Bw w w'
theorem box (w:World):ak (w.alloc (.cells #[i6 20,i6 2,i6 1,i6 4] 60)) w.heap.size 60 [i6 20,i6 2,i6 1,i6 4]/\Bw w (w.alloc (.cells #[i6 20,i6 2,i6 1,i6 4] 60)):=⟨ak.new w _ _,bh.alloc lh _⟩
theorem four {w:World} {g:Nat} (h:ak w g 60 [i6 20,i6 2,i6 1,i6 4]):w.cell? (ae g 0)=some (i6 20)/\w.cell? (ae g 1)=some (i6 2)/\w.cell? (ae g 2)=some (i6 1)/\w.cell? (ae g 3)=some (i6 4):=⟨h.cell 0,h.cell 1,h.cell 2,h.cell 3⟩
theorem eM (w:World):Calls prog 200 #[dP] w (zl w 24):=by
 unfold dP;go_enter func200,ntmps200;go_upto_region 1 with fail
 obtain⟨k0,I⟩:=box w;generalize w.alloc (.cells #[i6 20,i6 2,i6 1,i6 4] 60)=w0 at*;obtain⟨g,J⟩:=ex w.heap.size;rw[J]at k0|-;obtain⟨x0,x1,U,j⟩:=four k0;have K:=ja k0;have B:=ja I;clear k0 I J;go_wp2_with fail
 refine(cP w0).mono ?_;rintro e o ⟨rfl,R⟩;obtain⟨y0,y1,y2,y3⟩:=four (K.a.ext R);clear x0 x1 U j;go_wp2;go_ret;exact⟨rfl,B.a.trans (R.mono B.a.size)⟩
theorem yT (w:World):Calls prog 238 #[dP] w (zl w 384):=by
 unfold dP;go_enter func238,ntmps238;go_upto_region 1 with fail
 obtain⟨k0,I⟩:=box w;generalize w.alloc (.cells #[i6 20,i6 2,i6 1,i6 4] 60)=w0 at*;obtain⟨g,J⟩:=ex w.heap.size;rw[J]at k0|-;obtain⟨x0,x1,U,j⟩:=four k0;clear k0 J;have B:=ja I;clear I;go_wp2_with fail
 refine(eM w0).mono ?_;rintro e o ⟨rfl,R⟩;go_wp2;go_ret;exact⟨rfl,B.a.trans (R.mono B.a.size)⟩
theorem eB (w:World) (a:Int) (h0:1<=a) (h1:a<=384):Calls prog 201 #[dP,i6 a] w (MN w ((a-1)/16)):=by
 have J:=ja (show uG 1 384 a=true from decide_eq_true ⟨h0,h1⟩);unfold dP;go_enter func201,ntmps201;go_upto_region 1 with fail
 obtain⟨k0,j⟩:=box w;generalize w.alloc (.cells #[i6 20,i6 2,i6 1,i6 4] 60)=w0 at*;obtain⟨g,o⟩:=ex w.heap.size;rw[o]at k0|-;obtain⟨x0,x1,x2,x3⟩:=four k0;have K:=ja k0;have B:=ja j;clear k0 j o;go_wp2_with fail
 refine(cP w0).mono ?_;rintro e w1 ⟨rfl,R⟩;have K1:=ja (K.a.ext R);have B1:=ja (B.a.trans (R.mono B.a.size));obtain⟨y0,y1,y2,y3⟩:=four K1.a;clear x0 x1 x2 x3 R;go_wp2_with fail
 refine(yT w1).mono ?_;rintro e w2 ⟨rfl,b2⟩;have B2:=ja (B1.a.trans (b2.mono B1.a.size));clear y0 y1 y2 y3 b2;go_wp2_with fail
 refine(dz 1 384 w2).mono ?_;rintro e w3 ⟨rfl,I⟩;obtain⟨U,z1,z2,_⟩:=jw (w:=w2) (i6 1) (i6 384) 3;rw[<-I]at U z1 z2;have B3:=ja (B2.a.trans (U.mono B2.a.size));clear I U;go_wp2_with fail
 refine(dh a 1 384 _ _ w3 z1 z2).mono ?_;rintro e w4 ⟨rfl,rfl⟩;rw[J.a];go_wp2;go_ret2;exact⟨rfl,B3.a⟩
theorem mv (w:World) (s:Int) (h0:0<=s) (h1:s<=23):Calls prog 258 #[dP,i6 s] w (MN w (s*16+1)):=by
 have J:=ja (show uG 0 23 s=true from decide_eq_true ⟨h0,h1⟩);unfold dP;go_enter func258,ntmps258;go_upto_region 1 with fail
 obtain⟨k0,j⟩:=box w;generalize w.alloc (.cells #[i6 20,i6 2,i6 1,i6 4] 60)=w0 at*;obtain⟨g,o⟩:=ex w.heap.size;rw[o]at k0|-;obtain⟨x0,x1,x2,x3⟩:=four k0;have K:=ja k0;have B:=ja j;clear k0 j o;go_wp2_with fail
 refine(cP w0).mono ?_;rintro e w1 ⟨rfl,R⟩;have K1:=ja (K.a.ext R);have B1:=ja (B.a.trans (R.mono B.a.size));obtain⟨y0,y1,y2,y3⟩:=four K1.a;clear x0 x1 x2 x3 R;go_wp2_with fail
 refine(eM w1).mono ?_;rintro e w2 ⟨rfl,b2⟩;have B2:=ja (B1.a.trans (b2.mono B1.a.size));clear y0 y1 y2 y3 b2;go_wp2_with fail
 refine(dz 0 23 w2).mono ?_;rintro e w3 ⟨rfl,I⟩;obtain⟨U,z1,z2,_⟩:=jw (w:=w2) (i6 0) (i6 23) 3;rw[<-I]at U z1 z2;have B3:=ja (B2.a.trans (U.mono B2.a.size));clear I U;go_wp2_with fail
 refine(dh s 0 23 _ _ w3 z1 z2).mono ?_;rintro e w4 ⟨rfl,rfl⟩;rw[J.a];go_wp2;go_ret2;exact⟨rfl,B3.a⟩
def lC (s:Int):Int:=if s<18 then 0 else if s<20 then 1 else 2
theorem jI (w:World) (a s:Int) (h0:1<=a) (h1:a<=384) (hs: (a-1)/16=s):Calls prog 199 #[dP,i6 a] w (zl w (lC s)):=by
 have HS:=ja (eB · a h0 h1);rw[hs]at HS;clear hs;unfold dP at*;go_enter func199,ntmps199;go_upto_region 1 with fail
 obtain⟨k0,b0⟩:=box w;generalize w.alloc (.cells #[i6 20,i6 2,i6 1,i6 4] 60)=w0 at*;obtain⟨g,hg⟩:=ex w.heap.size;rw[hg]at k0|-;obtain⟨x0,x1,x2,x3⟩:=four k0;have K:=ja k0;have B:=ja b0;clear k0 b0 hg;go_wp2_with fail
 refine(HS.a w0).mono ?_;rintro e w1 ⟨rfl,b1⟩;have B1:=ja (B.a.trans (b1.mono B.a.size));obtain⟨y0,y1,y2,y3⟩:=four (K.a.ext b1);clear x0 x1 x2 x3 b1;by_cases c1:s<18
 ·have ht:=ja (show lC s=0 from if_pos c1);go_wp2;go_ret;exact⟨by rw[ht.a];rfl,B1.a⟩
 ·by_cases c2:s<20
  ·have ht:=ja (show lC s=1 by unfold lC;rw[if_neg c1,if_pos c2]);go_wp2;go_ret;exact⟨by rw[ht.a];rfl,B1.a⟩
  ·have ht:=ja (show lC s=2 by unfold lC;rw[if_neg c1,if_neg c2]);go_wp2;go_ret;exact⟨by rw[ht.a];rfl,B1.a⟩
end Ad
namespace Co
open Go.RowKit
structure Small (l:List Value):Prop where
 len:l.length<=8
 jW:∀u∈l,∀z,u≠.int .u8 z
section
variable {w w':World} {c:C} {fs:List Fi} {t:Nat} {ty:TypeId} {l:List Value}
theorem Small.of (h:l.length<=8) (k:l.all (λu=>match u with| .int .u8 _=>false|_=>true)=true):Small l:=⟨h,λu hu z e=>by have:=List.all_eq_true.1 k u hu;subst e;cases this⟩
theorem Az {B sz n:Nat} {v:Value} {xs:List Value} (h:bw w B sz v n xs) (hn:0<n) {j:Nat} {z:Int} (hx:xs[j]? =some (.int .u8 z)) (hb:ak w t ty l) (hl:Small l):v.ownBlock≠some t:=by
 obtain⟨A,c,rfl,o,h3,h4,J⟩:=h;obtain⟨b,off,rfl,R,U⟩:=J hn;intro e;obtain rfl:b=t:=by injection e
 have I:=U j _ hx;rw[hb.cell (off+j)]at I;exact hl.jW _ (List.mem_of_getElem? I) z rfl
theorem FE {B sz n:Nat} {v u:Value} {xs:List Value} (h:bw w B sz v n xs) (hn:0<n) {j:Nat} (hj:8<=j) (hx:xs[j]? =some u) (hb:ak w t ty l) (hl:Small l):v.ownBlock≠some t:=by
 obtain⟨A,c,rfl,o,h3,h4,J⟩:=h;obtain⟨b,off,rfl,R,U⟩:=J hn;intro e;obtain rfl:b=t:=by injection e
 have I:=U j _ hx;rw[hb.cell (off+j),List.getElem?_eq_none (oa hl.len)]at I;cases I
theorem aR {a:Nat} {ta:TypeId} {la:List Value} (h:ak w a ta la) (hb:ak w t ty l) (hne:ta≠ty):a≠t:=by rintro rfl;unfold ak at h hb;rw[h]at hb;injection hb with hb;injection hb with _ I;exact hne I
theorem aP {P:Program} {K:TypeId} {b:Nat} {m:KV} (h:ay w P K b m) (hb:ak w t ty l):b≠t:=by rintro rfl;obtain⟨es,clock,I,_⟩:=h;unfold ak at hb;rw[I]at hb;cases hb
theorem bD.AM (h:bD w c fs) (ht:af (· =t) w w') (h0:c.own t=0) (hb:ak w t ty l) (hl:Small l) (h1:260≠ty) (hul:9<=c.k.nQ.length):bD w' c fs:=by
 have own:∀b,c.own b≠0->¬b=t:=λb hb e=>hb (e▸h0);have R:∀b,b<=1->¬b=t:=λb A' e=>by
  have e0:b=0\/b=1:=(by omega);subst e;rcases e0 with rfl|rfl
  ·have U:=(hb.cell 8).symm.trans (h.gl.D_ 8 3375 rfl);rw[List.getElem?_eq_none hl.len]at U;cases U
  ·have U:=(hb.cell 8).symm.trans (h.gl.halves 8 dc);rw[List.getElem?_eq_none hl.len]at U;cases U
 exact{
  core:=ht.blk h.core (own _ (by rw[h.o1];decide))
  len:=h.len
  files:=ht.map h.files (own _ (by rw[h.o2];decide))
  gone:=ht.map h.gone (own _ (by rw[h.o3];decide))
  aB:=ht.map h.aB (own _ (by rw[h.o4];decide))
  bad:=ht.map h.bad (aP h.bad hb)
  o1:=h.o1
  o2:=h.o2
  o3:=h.o3
  o4:=h.o4
  ob:=h.ob
  hi:=λb o=>h.hi b (Nat.le_trans ht.size o)
  fi:=λi f hf=>by
   have I:=h.fi i f hf;exact{
    blk:=ht.blk I.blk (own _ (by rw[I.o0];omega))
    cA:=ht.map I.cA (own _ (by rw[I.o1];omega))
    fresh:=ht.map I.fresh (own _ (by rw[I.o2];omega))
    bA:=ht.map I.bA (own _ (by rw[I.o3];omega))
    lost:=ht.map I.lost (own _ (by rw[I.o4];omega))
    nodes:=ht.map I.nodes (own _ (by rw[I.o5];omega))
    o0:=I.o0
    o1:=I.o1
    o2:=I.o2
    o3:=I.o3
    o4:=I.o4
    o5:=I.o5
    cU:=λp hp=>by have J:=I.cU p hp;exact⟨ht.blk J.blk (aR J.blk hb h1),ht.map J.data (aP J.data hb),ht.map J.nodes (aP J.nodes hb),J.o0,J.o1,J.o2⟩
    jW:=λn v hv=>by have hO:=I.jW n v hv;have hlen:0<(Sp.blk f.d n).length:=(by rw[Sp.aM];omega);refine⟨af.bs ht hO.1 λg hg e=>?_,hO.2⟩;subst e;exact Az (j:=0) hO.1 hlen (by rw[List.getElem?_map,List.getElem?_eq_getElem hlen];rfl) hb hl hg
    ok:=I.ok}
  aU:=⟨(ht.fe h.aU.1 lh λg hg e=>by subst e;exact FE h.aU.1 om (Nat.le_refl 8) (List.getElem?_eq_getElem (show 8<c.k.nQ.length by omega)) hb hl hg).more ht.size,λb hb2=>⟨(h.aU.2 b hb2).1,Nat.lt_of_lt_of_le (h.aU.2 b hb2).2 ht.size⟩⟩
  gl:={
   halves:=λk hk=>(ht.cell (p:=ae 1 k) h.gl.lt (R 1 dc)).trans (h.gl.halves k hk)
   D_:=λk n hn=>(ht.cell (p:=ae 0 k) (Nat.lt_trans Nat.zero_lt_one h.gl.lt) (R 0 dc)).trans (h.gl.D_ k n hn)
   og:=h.gl.og}
  gM:=h.gM}
end
end Co
namespace Dv
open Go.RowKit
attribute [local go_sem] Oper.semAt_some
structure D where
 g:Nat
 b:Nat
 nm:Nat
 fm:Nat
 n:Nat
 pv:Value
 qs:List (Nat×List UInt8)
def D.cells (d:D):List Value:=[.slice (some ⟨d.b,0,none⟩) d.n d.n,d.pv,.map (some d.nm),.map (some d.fm),i6 (-1),.bool true,.bool true]
def qc (q:Nat×List UInt8):List Value:=i6 (q.1:Int)::dU q.2
def Cx (qs:List (Nat×List UInt8)):List Value:=qs.flatMap qc
structure At (w:World) (X:Nat->Prop) (d:D):Prop where
 blk:ak w d.g 121 d.cells
 vH:∃xs,ak w d.b 253 xs/\xs.length=d.n*128
 cX:∃kv:KV,ay w prog 3 d.nm kv/\kv.length<=d.qs.length
 cQ:ay w prog 3 d.fm []
 gE:w.ownsRow 0 255 129 d.pv d.qs.length (Cx d.qs)
 qs:∀q∈d.qs,q.1<d.n/\q.2.length=128
 gM:d.qs.length<=1000
 n0:d.n<=8192
 nf:d.nm≠d.fm
 xg:X d.g
 xb:X d.b
 xn:X d.nm
 xf:X d.fm
 xp:∀b,d.pv.ownBlock=some b->X b
section
variable {w w' w'':World} {X X' Y:Nat->Prop} {d d':D}
theorem sZ {q:Nat×List UInt8} (h:q.2.length=128): (qc q).length=129:=by unfold qc dU;simp[h]
theorem IZ (a b:List (Nat×List UInt8)):Cx (a++b)=Cx a++Cx b:=by unfold Cx;rw[List.flatMap_append]
theorem aJ {base sz n:Nat} {e:TypeId} {v:Value} {xs:List Value} (h:w.ownsRow base e sz v n xs) (ht:af Y w w') (hY:∀b,v.ownBlock=some b->¬Y b):w'.ownsRow base e sz v n xs:=by
 refine⟨h.1,?_⟩;rcases h.2 with J|⟨g,cap,cur,rfl,R,I,rest⟩
 ·exact .inl J
 ·exact .inr ⟨g,cap,cur,rfl,R,(ht.block g (Array.getElem?_eq_some_iff.1 I).1 (hY g rfl)).trans I,rest⟩
theorem At.bU (h:At w X d) (ht:af Y w w') (hY:∀b,X b->b<w.heap.size->¬Y b):At w' X d where
 blk:=ht.blk h.blk (hY _ h.xg h.blk.lt)
 vH:=let⟨xs,h1,h2⟩:=h.vH;⟨xs,ht.blk h1 (hY _ h.xb h1.lt),h2⟩
 cX:=let⟨kv,h1,h2⟩:=h.cX;⟨kv,ht.map h1 (hY _ h.xn h1.lt),h2⟩
 cQ:=ht.map h.cQ (hY _ h.xf h.cQ.lt)
 gE:=aJ h.gE ht λb I=>hY b (h.xp b I) (h.gE.lt b I).2
 qs:=h.qs
 gM:=h.gM
 n0:=h.n0
 nf:=h.nf
 xg:=h.xg
 xb:=h.xb
 xn:=h.xn
 xf:=h.xf
 xp:=h.xp
theorem At.below (h:At w X d) (hb:Bw w w'):At w' X d:=h.bU (af.aj (X:=λ_=>False) hb) λ_ _ _ e=>e
theorem At.own (h:At w X d) (hX:∀b,X b->X' b):At w X' d:=⟨h.blk,h.vH,h.cX,h.cQ,h.gE,h.qs,h.gM,h.n0,h.nf,hX _ h.xg,hX _ h.xb,hX _ h.xn,hX _ h.xf,λb I=>hX b (h.xp b I)⟩
theorem CQ (h:At w X d) (i:Int) (h0:0<=i) (h1:i<d.n):Calls prog 153 #[pt d.g 0,i6 i] w λe w'=>e=.returned (.bool true)/\Bw w w':=by have R:w.cell? (ae d.g 0)=some (.slice (some ⟨d.b,0,none⟩) d.n d.n):=h.blk.cell 0;have I:decide ((0:Int)<=i)=true:=decide_eq_true h0;have J:decide (i<(d.n:Int))=true:=decide_eq_true h1;clear h;go_enter func153,ntmps153;go_wp2;go_ret;exact⟨rfl,Below.refl _ _⟩
theorem mq (h:At w X d):Calls prog 103 #[pt d.g 0] w λe w'=>e=.returned (i6 0)/\Bw w w':=by have I:w.cell? (ae d.g 4)=some (i6 (-1)):=h.blk.cell 4;have c5:w.cell? (ae d.g 5)=some (.bool true):=h.blk.cell 5;have c6:w.cell? (ae d.g 6)=some (.bool true):=h.blk.cell 6;clear h;go_enter func103,ntmps103;go_wp2;go_ret;exact⟨rfl,Below.refl _ _⟩
theorem ij (h:At w X d):Calls prog 98 #[pt d.g 0] w λe w'=>e=.returned (i6 (d.n:Int))/\Bw w w':=by have I:w.cell? (ae d.g 0)=some (.slice (some ⟨d.b,0,none⟩) d.n d.n):=h.blk.cell 0;clear h;go_enter func98,ntmps98;go_wp2;go_ret;exact⟨rfl,Below.refl _ _⟩
theorem LS: (prog.info? 253).map (λi=>(i.zero,i.size,i.bytes))=some (some (.agg (List.replicate 128 (Value.int .u8 0)).toArray),128,128):=by kernel_rfl
def qo (w:World) (n:Nat) (e:Ending) (w':World):Prop:=∃d:D,e=.returned (.tuple #[pt d.g 0,i6 0])/\d.n=n/\At w' (λb=>w.heap.size<=b/\b<w'.heap.size) d/\Bw w w'
theorem iF (w:World) (n:Nat) (h0:1<=n) (h1:n<=8192):Calls prog 17 #[i6 (n:Int)] w (qo w n):=by
 have R:=run_mk (P:=prog) underlying117 LS n n lh om om;have A':=@run_makeMap prog;go_enter func17,ntmps17;go_wp2;generalize hG:madeCells _ (n*128)=A;have hA:A.toList.length=n*128:=by rw[<-hG,Array.length_toList];exact size_madeCells _ _
 clear hG R;go_ret2;obtain⟨I,j⟩:=ex (w.alloc (.cells A 253));have k1:=ak.new w 253 A;have s1:I.heap.size=w.heap.size+1:=by rw[<-j];simp
 have U:=(Below.refl w.heap.size w).alloc lh (.cells A 253);rw[j]at k1 U|-;have m2:=ay.made I prog 3;have s2: (I.alloc (.map #[] 0)).heap.size=I.heap.size+1:=by simp
 have o:=(Below.refl I.heap.size I).alloc lh (.map #[] 0);generalize I.alloc (.map #[] 0)=w2 at*;have m3:=ay.made w2 prog 3;have s3: (w2.alloc (.map #[] 0)).heap.size=w2.heap.size+1:=by simp
 have b3:=(Below.refl w2.heap.size w2).alloc lh (.map #[] 0);generalize w2.alloc (.map #[] 0)=w3 at*;have k4:=ak.new w3 121 #[.slice (some ⟨w.heap.size,0,none⟩) n n,.slice none 0 0,.map (some (w.heap.size+1)),.map (some (w.heap.size+1+1)),i6 (-1),.bool true,.bool true];have s4: (w3.alloc (.cells #[.slice (some ⟨w.heap.size,0,none⟩) n n,.slice none 0 0,.map (some (w.heap.size+1)),.map (some (w.heap.size+1+1)),i6 (-1),.bool true,.bool true] 121)).heap.size=w3.heap.size+1:=by simp
 have b4:=(Below.refl w3.heap.size w3).alloc lh (.cells #[.slice (some ⟨w.heap.size,0,none⟩) n n,.slice none 0 0,.map (some (w.heap.size+1)),.map (some (w.heap.size+1+1)),i6 (-1),.bool true,.bool true] 121);generalize w3.alloc (.cells #[.slice (some ⟨w.heap.size,0,none⟩) n n,.slice none 0 0,.map (some (w.heap.size+1)),.map (some (w.heap.size+1+1)),i6 (-1),.bool true,.bool true] 121)=w4 at*;have g3:w3.heap.size=w.heap.size+1+1+1:=by omega
 rw[show I.heap.size=w.heap.size+1 by omega]at m2;rw[show w2.heap.size=w.heap.size+1+1 by omega]at m3;rw[g3]at k4;have J:=o.trans (b3.mono o.size);refine⟨⟨w.heap.size+1+1+1,w.heap.size,w.heap.size+1,w.heap.size+1+1,n,.slice none 0 0,[]⟩,rfl,rfl,?_,U.trans ((J.trans (b4.mono J.size)).mono U.size)⟩;exact{
  blk:=k4
  vH:=⟨A.toList,(k1.ext J).ext b4,hA⟩
  cX:=⟨[],(m2.ext b3).ext b4,Nat.le_refl _⟩
  cQ:=m3.ext b4
  gE:=World.ownsRow_nil _ _ _ _
  qs:=λ_ h=>absurd h List.not_mem_nil
  gM:=Nat.zero_le _
  n0:=h1
  nf:=by simp
  xg:=by constructor<;>simp only[]<;>omega
  xb:=by constructor<;>simp only[]<;>omega
  xn:=by constructor<;>simp only[]<;>omega
  xf:=by constructor<;>simp only[]<;>omega
  xp:=λb hb=>by cases hb}
end
end Dv
namespace Dv
open Go.RowKit
attribute [local go_sem] Oper.semAt_some
theorem qf {P:Program} {K E t:TypeId} {w:World} {b:Nat} {l:KV} (h:ay w P K b l) (ht:P.underlying t=some (.map K E)) (ty:TypeId):
 ∃w',(Builtin.clear_ #[t] ty #[.map (some b)]).run P w=.ok (.tuple #[]) w'/\ay w' P K b []/\w.mapTurned w' b:=by
 obtain⟨es,clock,I,F,hs,R⟩:=h;have J:=(Array.getElem?_eq_some_iff.1 I).1;refine⟨{w with heap:=w.heap.setIfInBounds b (.map #[] clock)},?_,⟨#[],clock,?_,⟨by simp,MapKept.stamped_empty clock,by simp⟩,Nat.le_refl _,rfl⟩,es,clock,#[],clock,I,rfl⟩
 ·simp[Builtin.clear_,run_underlying ht,MapKept.run_getObj_map I,MapKept.run_setObj_map _ I,Result.andThen]
 ·show(w.heap.setIfInBounds b _)[b]? =_;rw[Array.getElem?_setIfInBounds_self_of_lt J]
section
variable {w w' w'':World} {X X' Y:Nat->Prop} {d d':D}
theorem At.An (h:At w X d):d.g≠d.b:=by obtain⟨xs,I,J⟩:=h.vH;exact Co.aR h.blk I dc
theorem At.ET (h:At w X d):d.nm≠d.g:=by obtain⟨J,I,R⟩:=h.cX;exact Co.aP I h.blk
theorem At.Jt (h:At w X d):d.fm≠d.g:=Co.aP h.cQ h.blk
theorem aO {base sz n:Nat} {e t:TypeId} {v:Value} {xs cs:List Value} {g:Nat} (h:w.ownsRow base e sz v n xs) (hk:ak w g t cs) (hne:e≠t):∀b,v.ownBlock=some b->b≠g:=by
 rintro b J rfl;rcases h.2 with⟨rfl,_⟩|⟨R,cap,cur,rfl,_,I,_⟩
 ·cases J
 ·obtain rfl:R=b:=(by injection J);unfold ak at hk;rw[hk]at I;injection I with I;injection I with _ U;exact hne U.symm
def cO (w:World) (X:Nat->Prop) (d:D) (w':World) (d':D):Prop:=At w' (λb=>X b\/(w.heap.size<=b/\b<w'.heap.size)) d'/\d'.g=d.g/\(d'.n=d.n/\d'.nm=d.nm/\d'.fm=d.fm)/\af X w w'
theorem cO.trans {d'':D} (h:cO w X d w' d') (k:cO w' (λb=>X b\/(w.heap.size<=b/\b<w'.heap.size)) d' w'' d''):cO w X d w'' d'':=by
 obtain⟨o,j,J,R⟩:=h;obtain⟨k1,k2,k3,U⟩:=k;refine⟨k1.own λb I=>?_,k2.trans j,⟨k3.1.trans J.1,k3.2.1.trans J.2.1,k3.2.2.trans J.2.2⟩,R.trans U λb I=>?_⟩
 ·have:=U.size;have:=R.size;rcases I with(I|I)|I
  ·exact .inl I
  ·exact .inr ⟨I.1,by omega⟩
  ·exact .inr ⟨by omega,I.2⟩
 ·rcases I with I|I
  ·exact .inl I
  ·exact .inr I.1
theorem cO.behind (hb:Bw w w') (h:cO w' X d w'' d'):cO w X d w'' d':=by obtain⟨I,J,R,U⟩:=h;exact⟨I.own λb h=>h.elim .inl λh=>.inr ⟨Nat.le_trans hb.size h.1,h.2⟩,J,R,(af.aj hb).trans U λ_ e=>.inl e⟩
theorem oV (h:At w X d):Calls prog 104 #[pt d.g 0] w λe w'=>e=.returned (.tuple #[])/\cO w X d w' {d with pv:=.slice none 0 0,qs:=[]}:=by
 have H:=ja h;have f1:=h.blk.frozen 1;have c1:w.cell? (ae d.g 1)=some d.pv:=h.blk.cell 1;have K1:=ja (h.blk.aC 1 (.slice none 0 0));have o:=ja (Co.af.setCell w d.g 1 (.slice none 0 0));have I:=h.ET;have R:=h.Jt;have U:=h.An;clear h;go_enter func104,ntmps104;go_upto_region 1 with fail
 generalize w.setCell (ae d.g 1) (.slice none 0 0)=w1 at*;have c2:w1.cell? (ae d.g 2)=some (.map (some d.nm)):=K1.a.cell 2;obtain⟨kv,hm,A1⟩:=H.a.cX;obtain⟨w2,A0,m2,J⟩:=qf (o.a.map hm I) underlying118 0;have T2:=ja ((o.a.mono (Y:=X) λi e=>by rw[e];exact H.a.xg).trans (af.bt (X:=X) J.grown λg e=>by rw[<-Option.some.inj e];exact H.a.xn) λ_ e=>.inl e);have M2:=ja m2;have j:=ja (af.bt (X:=(· =d.nm)) J.grown λg e=>(Option.some.inj e).symm);have N1:=Lib.hid (⟨I,R,U⟩:_/\_/\_);clear m2 J hm I R U;go_wp2;go_end0;obtain⟨xs,hx,A'⟩:=H.a.vH;obtain⟨n1,n2,n3⟩:=N1.out;have TT:=(o.a.mono (Y:=λi=>i=d.g\/i=d.nm) (λi e=>.inl e)).trans j.a (λi e=>.inl (.inr e));refine⟨rfl,?_,rfl,⟨rfl,rfl,rfl⟩,T2.a⟩;exact{
  blk:=j.a.blk K1.a λe=>n1 e.symm
  vH:=⟨xs,TT.blk hx (λe=>e.elim (λe=>n3 e.symm) (λe=>Co.aP H.a.cX.choose_spec.1 hx e.symm)),A'⟩
  cX:=⟨[],M2.a,Nat.le_refl _⟩
  cQ:=TT.map H.a.cQ (λe=>e.elim n2 (λe=>H.a.nf e.symm))
  gE:=World.ownsRow_nil _ _ _ _
  qs:=λ_ h=>absurd h List.not_mem_nil
  gM:=Nat.zero_le _
  n0:=H.a.n0
  nf:=H.a.nf
  xg:=.inl H.a.xg
  xb:=.inl H.a.xb
  xn:=.inl H.a.xn
  xf:=.inl H.a.xf
  xp:=λb hb=>by cases hb}
theorem oU {P:Program} {g t e sz n c:Nat} {z:Value} {cs:List Value} (h:ak w g e cs) (hn:0<n) (hl:cs.length=n*sz) (hu:P.underlying t=some (.slice e)) (hv:∀w,(zeroValue e).run P w=.ok z w) (hz:z.cells.size=sz) (h1:∀v∈z.cells.toList,v.oneCell'=true) (ty:TypeId):
 ∃w',(Builtin.clear_ #[t] ty #[.slice (some ⟨g,0,none⟩) n c]).run P w=.ok (.tuple #[]) w'/\(∃zs,ak w' g e zs/\zs.length=n*sz)/\af (· =g) w w':=by
 obtain⟨m,rfl⟩:∃m,n=m+1:=⟨n-1,by omega⟩;have o: (Builtin.zeroCells z.cells (m+1)).toList.length=(m+1)*sz:=by simp[Builtin.zeroCells,hz]
 have I:∀v∈(Builtin.zeroCells z.cells (m+1)).toList,v.oneCell'=true:=by
  intro v J;simp only[Builtin.zeroCells,Array.toList_map,List.mem_map,Array.toList_range,List.mem_range]at J;obtain⟨i,hi,rfl⟩:=J;have R:0<z.cells.size:=by
   rcases Nat.eq_zero_or_pos z.cells.size with R|R
   ·rw[R]at hi;omega
   ·exact R
  have:=Nat.mod_lt i R;refine h1 _ ?_;rw[getElem!_pos z.cells (i%z.cells.size) this];simp
 generalize hZ: (Builtin.zeroCells z.cells (m+1)).toList=zs at*;have U:=run_storeCells_cells (P:=P) g 0 zs 0 w (λj hj=>by rw[h.cell];simp;omega) (λj hj=>h.frozen _) I;simp only[Nat.add_zero]at U;refine⟨w.setCells g 0 zs,?_,⟨zs,?_,o⟩,Co.af.setCells w g 0 zs⟩
 ·simp[Builtin.clear_,run_underlying hu,hv,hZ,U]
 ·have:=h.setCells zs 0 om;rwa [ck _ _ om]at this
theorem BC (h:At w X d) (h0:0<d.n):Calls prog 53 #[pt d.g 0] w λe w'=>e=.returned (i6 0)/\cO w X d w' {d with pv:=.slice none 0 0,qs:=[]}:=by
 have H:=ja h;clear h;go_enter func53,ntmps53;go_wp2_with fail
 refine(mq H.a).mono ?_;rintro e w1 ⟨rfl,b1⟩;have H1:=ja (H.a.below b1);have B1:=ja b1;have c0:w1.cell? (ae d.g 0)=some (.slice (some ⟨d.b,0,none⟩) d.n d.n):=H1.a.blk.cell 0;obtain⟨xs,hx,J⟩:=H1.a.vH;obtain⟨w2,A0,hz,I⟩:=oU (P:=prog) (c:=d.n) hx h0 J underlying117 (z:=.agg (List.replicate 128 (Value.int .u8 0)).toArray) (λw=>by kernel_rfl) kj (λv hv=>by have:v∈List.replicate 128 (Value.int .u8 0):=hv;rw[List.eq_of_mem_replicate this];rfl) 0;obtain⟨zs,R,U⟩:=hz;have j:=H1.a.An;have H2:At w2 X d:={
  blk:=I.blk H1.a.blk j
  vH:=⟨zs,R,U⟩
  cX:=let⟨kv,h1,h2⟩:=H1.a.cX;⟨kv,I.map h1 (Co.aP h1 hx),h2⟩
  cQ:=I.map H1.a.cQ (Co.aP H1.a.cQ hx)
  gE:=aJ H1.a.gE I (aO H1.a.gE hx dc)
  qs:=H1.a.qs
  gM:=H1.a.gM
  n0:=H1.a.n0
  nf:=H1.a.nf
  xg:=H1.a.xg
  xb:=H1.a.xb
  xn:=H1.a.xn
  xf:=H1.a.xf
  xp:=H1.a.xp}
 have A':=ja H2;have T2:=ja ((af.aj (X:=X) B1.a).trans (I.mono (Y:=X) λi e=>by rw[e];exact H1.a.xb) λ_ e=>.inl e);clear H2 I R U hx J b1 j;go_wp2_with fail
 refine(oV A'.a).mono ?_;rintro e w3 ⟨rfl,o⟩;have HM:=ja (show cO w X d w3 _ from⟨o.1.own λb h=>h.elim .inl λh=>.inr ⟨Nat.le_trans T2.a.size h.1,h.2⟩,o.2.1,o.2.2.1,T2.a.trans o.2.2.2 λ_ e=>.inl e⟩);clear o;go_wp2;go_ret;exact⟨rfl,HM.a⟩
end
end Dv
end Go.Proofs.YtdhgejiacehpbaaGreatDoor
