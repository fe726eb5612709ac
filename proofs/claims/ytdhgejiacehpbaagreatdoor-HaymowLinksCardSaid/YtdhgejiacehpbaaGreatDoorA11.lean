import Derived.Test.YtdhgejiacehpbaaGreatDoorA10
import Derived.Great.BuildSlice
set_option maxRecDepth 100000
set_option maxHeartbeats 16000000
set_option linter.all false
namespace Go.Proofs.YtdhgejiacehpbaaGreatDoor
open Go.Proofs.Tryz
namespace Dv
open Go.RowKit
attribute [local go_sem] Oper.semAt_some
theorem fill_whole (v:Value) (s:Nat) (cells:Array Value) (hs:0<s) (hv:v.cells.size=s) (hc:cells.size=s):Instr.fill (λi=>some (i*s,s)) cells [(0,v)]=some v.cells:=by obtain⟨r,R,j,U⟩:=Great.fill_dense hs [v] 0 cells (λu hu=>by rw[List.mem_singleton.1 hu];exact hv) (by simp;omega);have I:Instr.fill (λi=>some (i*s,s)) cells [(0,v)]=some r:=R;rw[I];congr 1;refine Array.ext om λi hi J=>?_;have:=U i;rw[if_pos (by simp;omega),Nat.div_eq_of_lt om,Nat.mod_eq_of_lt om]at this;simp only[Nat.sub_self,List.getElem?_cons_zero,Option.bind_some]at this;rw[Array.getElem?_eq_getElem hi,Array.getElem?_eq_getElem J]at this;exact Option.some.inj this
theorem tg (off:Nat) (cells:Array Value) (v:Array Value) (h:off+v.size<=cells.size):v.zipIdx.foldl (λcs (x:Value×Nat)=>cs.setIfInBounds (off+x.2) x.1) cells=(cells.toList.take off++v.toList++cells.toList.drop (off+v.size)).toArray:=by
 obtain⟨U,R⟩:=Great.foldl_set off v.toList 0 cells;rw[<-Array.foldl_toList,Array.toList_zipIdx];refine Array.ext_getElem? λk=>?_;rw[R k];simp only[Nat.add_zero,Array.length_toList,List.getElem?_toArray];rw[List.append_assoc,List.getElem?_append,List.length_take,Array.length_toList,Nat.min_eq_left om];by_cases I:k<off
 ·rw[if_neg om,if_pos I,List.getElem?_take,if_pos I,Array.getElem?_toList]
 ·rw[if_neg I,List.getElem?_append,Array.length_toList];by_cases J:k-off<v.size
  ·rw[if_pos om,if_pos J]
  ·rw[if_neg om,if_neg J,List.getElem?_drop,Array.getElem?_toList];congr 1;omega
theorem tY (i:Nat) (l:List UInt8) (hl:l.length=128):prog.built 255 [(0,i6 (i:Int)),(1,.agg (dU l).toArray)]=some (qc (i,l)).toArray:=by
 have e:∀ps,prog.built 255 ps=Instr.fill (λx=>(#[(0,1),(1,128)]:Array (Nat×Nat))[x]?) (i6 0::List.replicate 128 (Value.int .u8 0)).toArray ps:=λps=>by kernel_rfl
 rw[e];have I: (Value.agg (dU l).toArray).cells.size=128:=by show(dU l).toArray.size=_;unfold dU;simp[hl]
 unfold Instr.fill;simp only[List.getElem?_toArray,List.getElem?_cons_zero];rw[if_neg (by simp[Value.cells])];unfold Instr.fill;simp only[List.getElem?_cons_zero,List.getElem?_cons_succ,I];rw[if_neg (by simp[Value.cells])];unfold Instr.fill;rw[tg _ _ _ (by rw[I];simp[Value.cells])];congr 2;have: (dU l).length=128:=by unfold dU;simp[hl]
 simp[Value.cells,qc,this]
theorem nE (W:World) (i:Nat) (l:List UInt8) (hl:l.length=128): (Instr.build 255 #[(0,i6 (i:Int)),(1,.agg (dU l).toArray)]).run prog W=.ok (.agg (qc (i,l)).toArray) W:=run_build W 255 _ _ (tY i l hl)
theorem ES: (prog.info? 255).map (λi=>(i.zero,i.size,i.bytes))=some (some (.agg (i6 0::List.replicate 128 (Value.int .u8 0)).toArray),129,136):=by kernel_rfl
section
variable {w w' w'':World} {X X' Y:Nat->Prop} {d d':D}
theorem aX {base sz n:Nat} {e:TypeId} {v:Value} {xs:List Value} (h:w.ownsRow base e sz v n xs):∃A c,v=.slice A n c:=by
 rcases h.2 with⟨rfl,rfl⟩|⟨I,cap,cur,rfl,_⟩
 ·exact⟨_,_,rfl⟩
 ·exact⟨_,_,rfl⟩
theorem fV (h:At w X d) (hk:d.qs.length<1000) (i:Nat) (hi:i<d.n) (vb:Value) (l:List UInt8) (hl:l.length=128) (hb:Bs w w.heap.size vb l) (hX:∀b,vb.ownBlock=some b->¬X b):
 Calls prog 106 #[pt d.g 0,i6 (i:Int),vb] w λe w'=>e=.returned (i6 0)/\∃d',cO w X d w' d'/\d'.qs=d.qs++[(i,l)]:=by
 have H:=ja h;have HB:=ja hb;obtain⟨A,c,rfl,C4,F0,Aw⟩:=hb.open_;obtain⟨bb,bo,rfl,CC,h8⟩:=Aw 0 om;clear Aw h8;rw[hl]at HB C4;have HX:=ja (hX bb rfl);clear hX;have HL:=ja hl;rw[hl];have n0:=h.n0;clear h hb hl;go_enter func106,ntmps106;go_wp2_with fail
 refine(CQ H.a i om om).mono ?_;rintro e w1 ⟨rfl,b1⟩;have B1:=ja b1;clear b1;go_wp2_with fail
 refine(mq (H.a.below B1.a)).mono ?_;rintro e w2 ⟨rfl,b2⟩;have B2:=ja (B1.a.trans (b2.mono B1.a.size));have H2:=ja (H.a.below B2.a);clear b2;have c3:w2.cell? (ae d.g 3)=some (.map (some d.fm)):=H2.a.blk.cell 3;have Ab:=H2.a.cQ.look Co.az underlying118 (z:=i6 0) kj (i:Int) (WalkArith.wf_i64 om);rw[dq]at Ab;simp only[Option.getD_none]at Ab;go_upto_region 10 with fail
 refine wp_region_still_tail 10 kj kj ?_;obtain⟨w3,Ad⟩:=ex ({w2 with drawn:=w2.drawn+1}:World);have b3:Bw w2 w3:=by subst Ad;exact(Below.refl _ w2).drew
 rw[Ad];have B3:=ja (B2.a.trans (b3.mono B2.a.size));have H3:=ja (H2.a.below b3);clear c3 Ab Ad b3;obtain⟨A4,p4,Ae⟩:=aX H3.a.gE;have x2:w3.cell? (ae d.g 2)=some (.map (some d.nm)):=H3.a.blk.cell 2;have x1:w3.cell? (ae d.g 1)=some (.slice A4 d.qs.length p4):=(H3.a.blk.cell 1).trans (by rw[<-Ae];rfl);obtain⟨kv,hm,Cd⟩:=H3.a.cX;obtain⟨w4,Ax,m4,B'⟩:=hm.store Co.az underlying118 (by rw[aq];omega) (i:Int) (WalkArith.wf_i64 om) (i6 (d.qs.length:Int));have B0:=ja Ae;obtain⟨k,Ah⟩:=ex d.qs.length;have Ao:=ja Ah;rw[Ah]at x1 Ax;have T4:=ja (af.bt (X:=(· =d.nm)) B'.grown λg e=>(Option.some.inj e).symm);have D0:=ja (show kv.length+1<=k+1 by omega);have B4: (dk kv (i:Int) (i6 (d.qs.length:Int))).length<=kv.length+1:=by
  unfold dk bf;have B5:∀(y:Int×Value) (q:KV),(dO y q).length=q.length+1:=by
   intro y q;induction q with
   |nil=>rfl
   |cons z r ih=>unfold dO;split<;>simp[ih]
  rw[B5];have:=List.length_filter_le (λy:Int×Value=> !decide (y.1=(i:Int))) kv;omega
 have M4:=jb m4 B4;clear hm Ae Ah m4 B' Cd B4;simp only[td];repeat still_step
 refine wpStill_nil ?_;go_upto_region 11 with fail
 have F':∀{b:Nat},b<w3.heap.size->b<w4.heap.size:=λh=>Nat.lt_of_lt_of_le h T4.a.size;have KD:=T4.a.blk H3.a.blk (λe=>H3.a.ET e.symm);have y1:w4.cell? (ae d.g 1)=some (.slice A4 k p4):=(KD.cell 1).trans (by rw[<-Ao.a,<-B0.a];rfl);have A5:w4.ownsRow 0 255 129 d.pv k (Cx d.qs):=by
  rw[<-Ao.a];exact aJ H3.a.gE T4.a λb hb e=>by
   obtain⟨c',fz,h1⟩:∃c' fz,w3.heap[b]? =some (.cells c' 255 fz):=by
    rcases H3.a.gE.2 with⟨e1,_⟩|⟨g',cap,cur,e1,_,h1,_⟩
    ·rw[e1]at hb;cases hb
    ·rw[e1]at hb;obtain rfl:g'=b:=(by injection hb);exact⟨_,_,h1⟩
   obtain⟨F1,D3,_⟩:=H3.a.cX;obtain⟨es,clock,h2,_⟩:=D3;rw[<-e,h1]at h2;cases h2
 have D5:w4.rangeAt bb bo (dU l):=by intro j v hj;have Dv:=HB.a.below (B3.a.mono lh);obtain⟨A',c',e1,_,_,_,h5⟩:=Dv;injection e1 with e1 e2 e3;obtain⟨b',o',e4,B6,Aq⟩:=h5 (by rw[HL.a];omega);rw[e4]at e1;injection e1 with e1;injection e1 with e1 e5;subst e1 e5;rw[T4.a.cell (p:=ae bb (bo+j)) (Nat.lt_of_lt_of_le CC B3.a.size) (λe=>HX.a (by rw[show bb=d.nm from e];exact H3.a.xn))];exact Aq j v hj
 have B7: (prog.info? 253).map (·.size)=some (dU l).length:=by rw[show(dU l).length=128 by unfold dU;simp[HL.a]];kernel_rfl
 obtain⟨ie,E1,hz,hs,F2⟩:=info_parts ES;have A8: (qc (i,l)).length=129:=sZ HL.a;obtain⟨w5,A9⟩:=ex (w4.drew.alloc (.cells (qc (i,l)).toArray 255));have Ar:w5.ownsRow 0 255 129 d.pv k (Cx d.qs):=by rw[<-A9];exact A5.drew.alloc _
 have k5:ak w5 w4.heap.size 255 (qc (i,l)):=by rw[<-A9];exact ak.new w4.drew _ _
 have b5:Bw w4 w5:=by rw[<-A9];exact((Below.refl _ w4).drew).alloc lh _
 have As:∀u∈qc (i,l),u.oneCell'=true:=by
  intro u hu;unfold qc dU at hu;rcases List.mem_cons.1 hu with rfl|hu
  ·rfl
  ·obtain⟨z,_,rfl⟩:=List.mem_map.1 hu;rfl
 have B8:=Ao.a;obtain⟨v6,w6,A2,A3,B9,Aa⟩:=aE (P:=prog) (ty:=119) underlying119 ES rfl dc Ar (k5.fe 0 1 1 129 (by rw[A8];decide) lh (by rw[aq];omega)) (λu hu=>As u (List.mem_of_mem_take (by simpa using hu))) (by rw[aq];omega) om (Nat.zero_le _);obtain⟨A6,c6,rfl⟩:=aX A3;have T6:af (λb=>d.pv.ownBlock=some b) w5 w6:=af.bt B9 λg e=>e;have BB:d.pv.ownBlock≠some d.g:=λe=>aO A5 KD dc d.g e rfl;have AI:ak w6 d.g 121 d.cells:=T6.blk (KD.ext b5) BB;have f6:=AI.frozen 1;have F3:w5.cell? (ae d.g 1)=some (.slice A4 k p4):=cl b5 KD.lt y1;have Au:=B0.a;rw[B8]at Au;rw[Au]at A2;have y6:w6.cell? (ae d.g 1)=some (.slice A4 k p4):=(AI.cell 1).trans (by rw[<-Au];rfl);have E4:=ja (λW:World=>nE W i l HL.a);refine dF 15 [pt d.g 0,pt d.g 0,pt d.g 0,pt d.g 1,.slice A4 k p4,i6 (i:Int),.slice (some ⟨bb,bo,none⟩) 128 c,pt bb bo,.agg (dU l).toArray,.agg (qc (i,l)).toArray,.slice (some ⟨w4.heap.size,0,none⟩) 1 1,.slice A6 (k+1) c6,pt d.g 0,pt d.g 1,undef] (λf_ q_=>q_=cond (f_ 14) (w6.setCell (ae d.g 1) (.slice A6 (k+1) c6)) (cond (f_ 11) (w6) (cond (f_ 10) (w5) (w4.drew)))) kj rfl kj rfl ?_ ?_
 ·refine⟨cz [] [0],cz [] [0],cz [1,41] [],cz [2,42] [],?_,cz [] [1],cz [] [2],cz [6,46] [],?_,?_,?_,?_,cz [0,40] [],cz [12,52] [],?_,trivial⟩
  ·intro f a x A0 U I hG hd hs K hK;have n4:f 4=false:=A0;have R:f 11=false:=I.no 11 4 44 n4 kj;have o:f 14=false:=I.no 14 4 44 n4 kj;have hx:=hG;rw[o,R]at hx;simp only[cond_true,cond_false]at hx;have F4:_=_:=hd 3 43 kj;clear hd hs U I;have AR:=ja hx;clear hx;have A1:=ja hG;clear hG;refine pj ?_;have c1:x.cell? (ae d.g 1)=some (.slice A4 k p4):=(by rw[AR.a];cases f 10<;>assumption);go_simp;exact hK _ _ rfl A1.a
  ·intro f a x A0 U I hG hd hs K hK;have n8:f 8=false:=A0;have n9:f 9=false:=I.no 9 8 48 n8 kj;have J:f 10=false:=I.no 10 9 49 n9 kj;have R:f 11=false:=I.no 11 10 50 J kj;have o:f 14=false:=I.no 14 8 48 n8 kj;have hx:=hG;rw[o,R,J]at hx;simp only[cond_true,cond_false]at hx;have E5:_=_:=hd 7 47 kj;clear hd hs U I;have AR:=ja hx;clear hx;have A1:=ja hG;clear hG;refine pj ?_;refine wp_load_mid 253 (.tmp 47) rfl bb bo E5 (dU l) _ (by rw[AR.a];exact D5) underlying253 rfl B7 ?_;exact hK _ _ rfl A1.a
  ·intro f a x A0 U I hG hd hs K hK;have n9:f 9=false:=A0;have J:f 10=false:=I.no 10 9 49 n9 kj;have R:f 11=false:=I.no 11 10 50 J kj;have o:f 14=false:=I.no 14 9 49 n9 kj;have hx:=hG;rw[o,R,J]at hx;simp only[cond_true,cond_false]at hx;have E6:_=_:=hd 5 45 kj;have BO:=aA E6;have E7:_=_:=hd 8 48 kj;have BQ:=aA E7;clear hd hs U I;have AR:=ja hx;clear hx;have A1:=ja hG;clear hG;refine pj ?_;refine Co.wp_build 255 #[(0,.tmp 45),(1,.tmp 48)] rfl (r:=.agg (qc (i,l)).toArray) ?_ (hK _ _ rfl A1.a);have e: (#[(0,Operand.tmp 45),(1,.tmp 48)].map λ(i,x)=>(i,a.eval x))=#[(0,i6 (i:Int)),(1,.agg (dU l).toArray)]:=(by simp[Act.eval,BO,BQ]);rw[e];exact E4.a _
  ·intro f a x A0 U I hG hd hs K hK;have J:f 10=false:=A0;have R:f 11=false:=I.no 11 10 50 J kj;have o:f 14=false:=I.no 14 10 50 J kj;have hx:=hG;rw[o,R,J]at hx;simp only[cond_true,cond_false]at hx;have E8:_=_:=hd 9 49 kj;have Bg:=aA E8;clear hd hs U I;have hN: (w5)=cond (decide (14=10)||f 14) (w6.setCell (ae d.g 1) (.slice A6 (k+1) c6)) (cond (decide (11=10)||f 11) (w6) (cond (decide (10=10)||f 10) (w5) (w4.drew))):=(by simp only[Nat.reduceEqDiff,decide_true,decide_false,Bool.false_or,Bool.true_or,J,R,o,cond_true,cond_false]);subst hx;have A1:=ja hG;clear hG;have A7:=ja hN;clear hN;refine pj ?_;refine wp_buildSlice 119 255 1 #[(0,.tmp 49)] rfl (qc (i,l)).toArray ie _ underlying119 E1 hz (by rw[hs];decide) (by rw[hs];decide) ?_ ?_
   ·have e: (#[(0,Operand.tmp 49)].map λ(i,x)=>(i,a.eval x)).toList=[(0,.agg (qc (i,l)).toArray)]:=(by simp[Act.eval,Bg]);rw[e,hs];exact fill_whole (.agg (qc (i,l)).toArray) 129 _ dc (by show(qc (i,l)).toArray.size=129;rw[List.size_toArray];exact A8) sj
   ·refine hK _ _ rfl ?_;show w4.drew.alloc _=_;rw[A9];exact A7.a
  ·intro f a x A0 U I hG hd hs K hK;have R:f 11=false:=A0;have J:f 10=true:=U 10 50 kj;have o:f 14=false:=I.no 14 11 51 R kj;have hx:=hG;rw[o,R,J]at hx;simp only[cond_true,cond_false]at hx;have E9:_=_:=hd 4 44 kj;have EC:_=_:=hd 10 50 kj;clear hd hs U I;have hN: (w6)=cond (decide (14=11)||f 14) (w6.setCell (ae d.g 1) (.slice A6 (k+1) c6)) (cond (decide (11=11)||f 11) (w6) (cond (decide (10=11)||f 10) (w5) (w4.drew))):=(by simp only[Nat.reduceEqDiff,decide_true,decide_false,Bool.false_or,Bool.true_or,J,R,o,cond_true,cond_false]);subst hx;have A1:=ja hG;clear hG;have A7:=ja hN;clear hN;refine pj ?_;refine c_ 44 50 119 rfl E9 EC A2 ?_;exact hK _ _ rfl A7.a
  ·intro f a x A0 U I hG hd hs K hK;have o:f 14=false:=A0;have J:f 10=true:=U 10 50 kj;have R:f 11=true:=U 11 51 kj;have hx:=hG;rw[o,R,J]at hx;simp only[cond_true,cond_false]at hx;have F5:_=_:=hd 13 53 kj;have F6:_=_:=hd 11 51 kj;clear hd hs U I;have hN: (w6.setCell (ae d.g 1) (.slice A6 (k+1) c6))=cond (decide (14=14)||f 14) (w6.setCell (ae d.g 1) (.slice A6 (k+1) c6)) (cond (decide (11=14)||f 11) (w6) (cond (decide (10=14)||f 10) (w5) (w4.drew))):=(by simp only[Nat.reduceEqDiff,decide_true,decide_false,Bool.false_or,Bool.true_or,J,R,o,cond_true,cond_false]);subst hx;have A1:=ja hG;clear hG;have A7:=ja hN;clear hN;refine pj ?_;go_simp;exact hK _ _ rfl A7.a
 ·intro x hG;replace hG:x=w6.setCell (ae d.g 1) (.slice A6 (k+1) c6):=hG;subst hG;(iterate 14 rintro _ rfl);simp only[ap];(try simp only[Exit.then]);have KE:=AI.aC 1 (.slice A6 (k+1) c6);have TE:=Co.af.setCell w6 d.g 1 (.slice A6 (k+1) c6);have HE:=Lib.hid (⟨KE,TE⟩:_/\_);clear KE TE y6 f6 A2;generalize w6.setCell (ae d.g 1) (.slice A6 (k+1) c6)=w7 at*;go_wp2;go_ret;obtain⟨KE,TE⟩:=HE.out;have EK:∀b,d.pv.ownBlock=some b->∃c fz,w4.heap[b]? =some (.cells c 255 fz):=λb hb=>by
   rcases A5.2 with⟨e1,_⟩|⟨g',cap,cur,e1,_,h1,_⟩
   ·rw[e1]at hb;cases hb
   ·rw[e1]at hb;obtain rfl:g'=b:=(by injection hb);exact⟨_,_,h1⟩
  have Bt:∀{b:Nat} {m:KV},ay w4 prog 3 b m->d.pv.ownBlock≠some b:=λhm e=>(by obtain⟨c',fz,h1⟩:=EK _ e;obtain⟨es,clock,h2,_⟩:=hm;rw[h1]at h2;cases h2);have TB:af (λb=>d.pv.ownBlock=some b\/b=d.g) w4 w7:=((af.aj b5).trans T6 λ_ e=>.inl (.inl e)).trans TE λ_ e=>.inl (.inr e);have TX:af X w w7:=(((af.aj B3.a).trans T4.a λb e=>.inl (by rw[show b=d.nm from e];exact H3.a.xn))).trans TB λb e=>.inl (e.elim (H3.a.xp b) λe=>by rw[e];exact H3.a.xg);have s3:=B3.a.size;have s4:=T4.a.size;have s5:=b5.size;have s7:=TB.size;obtain⟨xs,hx,EX⟩:=H3.a.vH;have Bu:=T4.a.blk hx (λe=>Co.aP H3.a.cX.choose_spec.1 hx e.symm);have By:=T4.a.map H3.a.cQ (λe=>H3.a.nf e.symm);have Av: ({d with pv:=Value.slice A6 (k+1) c6,qs:=d.qs++[(i,l)]}:D).qs.length=k+1:=(by simp[B8]);refine⟨rfl,{d with pv:=.slice A6 (k+1) c6,qs:=d.qs++[(i,l)]},⟨?_,rfl,⟨rfl,rfl,rfl⟩,TX⟩,rfl⟩;exact{
   blk:=KE
   vH:=⟨xs,TB.blk Bu (λe=>e.elim (λe=>aO A5 Bu dc _ e rfl) (λe=>H3.a.An e.symm)),EX⟩
   cX:=⟨_,TB.map M4.a (λe=>e.elim (Bt M4.a) H3.a.ET),by rw[Av];exact Nat.le_trans M4.b D0.a⟩
   cQ:=TB.map By (λe=>e.elim (Bt By) H3.a.Jt)
   gE:=by
    rw[Av,show Cx ({d with pv:=Value.slice A6 (k+1) c6,qs:=d.qs++[(i,l)]}:D).qs=Cx d.qs++qc (i,l) by rw[IZ];unfold Cx;simp];have:=aJ A3 TE λb hb e=>?_
    ·simpa [A8,List.take_of_length_le (Nat.le_of_eq A8)]using this
    ·rcases Aa with h|h
     ·rw[h]at hb;exact BB (by rw[hb,e])
     ·rw[h]at hb;have B6:w5.heap.size=b:=(by injection hb);have:=AI.lt;have:=KD.lt;have e2:b=d.g:=e;omega
   qs:=λq hq=>by
    rcases List.mem_append.1 hq with hq|hq
    ·exact H3.a.qs q hq
    ·rw[List.mem_singleton.1 hq];exact⟨hi,HL.a⟩
   gM:=by rw[Av];omega
   n0:=H3.a.n0
   nf:=H3.a.nf
   xg:=.inl H3.a.xg
   xb:=.inl H3.a.xb
   xn:=.inl H3.a.xn
   xf:=.inl H3.a.xf
   xp:=λb hb=>by
    rcases Aa with h|h
    ·exact .inl (H3.a.xp b (by rw[<-h];exact hb))
    ·have B6:w5.heap.size=b:=(by have:=h.symm.trans hb;injection this);refine .inr ⟨by omega,?_⟩;have:=(A3.lt b hb).2;have:=TE.size;omega}
end
end Dv
namespace Dv
open Go.RowKit
attribute [local go_sem] Oper.semAt_some
section
variable {w w' w'':World} {X X' Y:Nat->Prop} {d d':D}
theorem M_:∀args x,(callFunc 108 args).run prog x=.ok (.enter 108 args) x:=λargs x=>by have h:=func108;go_simp
theorem LN (v:Value) (w:World):Calls prog 108 #[v] w λe w'=>e=.returned (i6 128)/\w'=w:=by go_enter func108,ntmps108;go_wp2;go_ret;exact⟨rfl,rfl⟩
theorem Fb:∀{qs:List (Nat×List UInt8)} {j:Nat} {q:Nat×List UInt8},(∀q∈qs,q.2.length=128)->qs[j]? =some q->∀i v,(qc q)[i]? =some v->(Cx qs)[j*129+i]? =some v
 |[],_,_,_,h,_,_,_=>by simp at h
 |r::qs,0,q,hl,h,i,v,hv=>by
  obtain rfl:r=q:=(by simpa using h);show(qc r++Cx qs)[0*129+i]? =_;have:i<(qc r).length:=by
   rcases Nat.lt_or_ge i (qc r).length with h|h
   ·exact h
   ·rw[List.getElem?_eq_none h]at hv;cases hv
  rw[Nat.zero_mul,Nat.zero_add,List.getElem?_append_left this];exact hv
 |r::qs,j+1,q,hl,h,i,v,hv=>by show(qc r++Cx qs)[(j+1)*129+i]? =_;have I:=sZ (hl r List.mem_cons_self);rw[List.getElem?_append_right om,I,show(j+1)*129+i-129=j*129+i by omega];exact Fb (λq J=>hl q (List.mem_cons_of_mem _ J)) (by simpa using h) i v hv
theorem uy (h:At w X d):Calls prog 107 #[pt d.g 0,.func (.func 108) #[] #[]] w λe w'=>e=.returned (.tuple #[])/\cO w X d w' {d with pv:=.slice none 0 0,qs:=[]}:=by
 have H:=ja h;have B6:=M_;obtain⟨A4,p4,A8⟩:=aX h.gE;have x1:w.cell? (ae d.g 1)=some (.slice A4 d.qs.length p4):=(h.blk.cell 1).trans (by rw[<-A8];rfl);have Av:=ja A8;obtain⟨k,A0⟩:=ex d.qs.length;have Aw:=ja A0;rw[A0]at x1;have B7:k<=1000:=by rw[<-A0];exact h.gM
 have n0:=h.n0;clear h A8 A0;go_enter func107,ntmps107;go_wp2;clear x1;go_loopw [4,5,6,12] (λ_ _ _ u wr=>∃j:Nat,j<=k/\u=i6 (j:Int)/\At wr X d/\af X w wr) (λ_ _ _ u _=>k-(RowKit.intOf u).toNat)
 case atStart=>exact⟨0,Nat.zero_le _,rfl,H.a,af.refl _ _⟩
 case round=>
  obtain⟨j,hj,rfl,hA,hT⟩:=hrel;have HA:=ja hA;have HT:=ja hT;by_cases Ax:j<k
  ·have B':j<d.qs.length:=(by rw[Aw.a];exact Ax);obtain⟨⟨ai,l⟩,hq⟩:∃q,d.qs[j]? =some q:=⟨_,List.getElem?_eq_getElem B'⟩;have J:=hA.qs _ (List.mem_of_getElem? hq);obtain⟨g6,o6,B0,A9⟩:∃g6,∃(_:Unit),A4=some ⟨g6,0,none⟩/\wr.rangeAt g6 (j*129) (qc (ai,l)):=by
    have ho:=hA.gE;rw[Av.a]at ho;rcases ho.2 with⟨e,h0⟩|⟨g',cap,cur,e,_,h1,h2,h3,h4,h5⟩
    ·omega
    ·injection e with e1 _ _;refine⟨g',(),e1,λi v hv=>?_⟩;have:=Fb (λq hq=>(hA.qs q hq).2) hq i v hv;rw[<-h5,List.getElem?_take]at this;split at this
     ·have hb:ak wr g' 255 cur.toList:=(by unfold ak;rw[h1]);rw[hb.cell];exact this
     ·cases this
   subst B0;have HQ:=ja J;clear hA hT hq J;have A1: (prog.info? 255).map (·.size)=some (qc (ai,l)).length:=(by rw[sZ HQ.a.2];kernel_rfl);have R:∀u∈qc (ai,l),u.oneCell'=true:=by
    intro u hu;unfold qc dU at hu;rcases List.mem_cons.1 hu with rfl|hu
    ·rfl
    ·obtain⟨z,_,rfl⟩:=List.mem_map.1 hu;rfl
   have J: (qc (ai,l)).length=129:=sZ HQ.a.2;have Ad:=ja (show∃cs,cs=qc (ai,l)from⟨_,rfl⟩);obtain⟨cs,AI⟩:=Ad.a;rw[<-AI]at A9 A1 R J;have Ae:=ja AI;have A2:=ja J;clear Ad AI;have Ah:129<=zeroCells255.size:=(by decide+kernel);have Ao:=ja (show zeroCells255.toList.length=129 by decide+kernel);have A3:cs.length<=zeroCells255.size:=(by rw[J];exact Ah);clear J Ah;(go_upto_region 3 with(first|refine aw 255 (.tmp 15) rfl rfl g6 (j*129) rfl cs _ A9 underlying255 rfl A1 ?_|with_reducible refine Co.bE rfl 255 (.tmp 5) (.tmp 16) rfl cs rfl rfl A3 rfl A1 R ?_));have k0:=ak.new wr 255 zeroCells255;have b0:=(Below.refl wr.heap.size wr).alloc lh (.cells zeroCells255 255);have k2:=k0.setCells cs 0 (by rw[Ao.a,A2.a];decide);rw[ck _ cs (by rw[Ao.a,A2.a])]at k2;have b2:=aS b0 lh 0 cs;generalize(wr.alloc (.cells zeroCells255 255)).setCells wr.heap.size 0 cs=w2 at*;obtain⟨g5,AR⟩:=ex wr.heap.size;rw[AR]at k2|-;have K2:=ja k2;have B2:=ja b2;have B8:=ja AR;simp only[Act.put];clear k0 b0 k2 b2 AR A9 A1 R A3;generalize Value.agg cs.toArray=vv;(go_wp2_with fail);refine(LN _ w2).mono ?_;rintro e w3 ⟨rfl,rfl⟩;(go_upto_region 4 with fail);rw[show(min (max 128 0) 128:Int)=128 from rfl];have Aa:=HA.a.below B2.a;obtain⟨xs,hx,Aq⟩:=Aa.vH;refine wp_region_still_tail 12 kj kj ?_;obtain⟨w4,Ab⟩:=ex ({w3 with drawn:=w3.drawn+1}:World);have b4:Bw w3 w4:=(by subst Ab;exact(Below.refl _ w3).drew);rw[Ab];have I:=ja (Aa.below b4);have B4:=ja (B2.a.trans (b4.mono B2.a.size));have K4:=K2.a.ext b4;have KX:=hx.ext b4;have y0:w4.cell? (ae d.g 0)=some (.slice (some ⟨d.b,0,none⟩) d.n d.n):=I.a.blk.cell 0;have y1:w4.cell? (ae g5 0)=some (i6 (ai:Int)):=(K4.cell 0).trans (by rw[Ae.a];rfl);have Ar:=HQ.a.1;have U:=jb KX Aq;have B1:=ja K4;clear Ab b4 Aa hx Aq K4 KX;replace Ar:ai<d.n:=Ar;simp only[td];(repeat still_step);refine wpStill_nil ?_;have A5:∀u∈cs,u.oneCell'=true:=by
    rw[Ae.a];intro u hu;unfold qc dU at hu;rcases List.mem_cons.1 hu with rfl|hu
    ·rfl
    ·obtain⟨z,_,rfl⟩:=List.mem_map.1 hu;rfl
   have A6:=B1.a.fe 1 128 128 1 (by rw[A2.a];decide) lh (by rw[aq];decide);obtain⟨w6,B9,k6,As,A',B3⟩:=Sq.jC (P:=prog) U.a (o:=ai*128) (n:=128) (c':=128) 23 3 5 underlying23 kj A6 (λu hu=>A5 u (List.mem_of_mem_drop (List.mem_of_mem_take hu))) (by rw[U.b];omega);have A7: (xs.take (ai*128)++((cs.drop 1).take (128*1)).take (min 128 128)++xs.drop (ai*128+min 128 128)).length=d.n*128:=(by have h1:=U.b;have h2:=A2.a;simp only[List.length_append,List.length_take,List.length_drop,Nat.min_self];omega);have Au:=I.a.An;have H6:At w6 X d:={
    blk:=A'.blk I.a.blk Au
    vH:=⟨_,k6,A7⟩
    cX:=let⟨kv,h1,h2⟩:=I.a.cX;⟨kv,A'.map h1 (Co.aP h1 U.a),h2⟩
    cQ:=A'.map I.a.cQ (Co.aP I.a.cQ U.a)
    gE:=aJ I.a.gE A' (aO I.a.gE U.a dc)
    qs:=I.a.qs
    gM:=I.a.gM
    n0:=I.a.n0
    nf:=I.a.nf
    xg:=I.a.xg
    xb:=I.a.xb
    xn:=I.a.xn
    xf:=I.a.xf
    xp:=I.a.xp}
   have B5:=ja H6;have T6:=ja ((HT.a.trans (af.aj (X:=X) B4.a) λ_ e=>.inl e).trans (A'.mono (Y:=X) λi e=>by rw[e];exact I.a.xb) λ_ e=>.inl e);clear H6 A' k6 As B3 A7 Au A6 A5 y0 y1;go_wp2;go_roundw;case rel=>exact⟨j+1,by omega,by simp,B5.a,T6.a⟩
   case measure=>simp[RowKit.intOf];omega
  ·obtain rfl:j=k:=(by omega);(go_wp2_with fail);refine(oV HA.a).mono ?_;rintro e w3 ⟨rfl,hM⟩;have HM:=ja (show cO w X d w3 _ from⟨hM.1.own λb h=>h.elim .inl λh=>.inr ⟨Nat.le_trans HT.a.size h.1,h.2⟩,hM.2.1,hM.2.2.1,HT.a.trans hM.2.2.2 λ_ e=>.inl e⟩);clear hM;go_wp2;go_end0;exact⟨rfl,HM.a⟩
theorem qW (h:At w X d):Calls prog 55 #[pt d.g 0] w λe w'=>e=.returned (i6 0)/\cO w X d w' {d with pv:=.slice none 0 0,qs:=[]}:=by
 have H:=ja h;clear h;go_enter func55,ntmps55;go_wp2_with fail
 refine(mq H.a).mono ?_;rintro e j ⟨rfl,I⟩;have J:=ja I;clear I;go_wp2_with fail
 refine(uy (H.a.below J.a)).mono ?_;rintro e o ⟨rfl,R⟩;have U:=ja (cO.behind J.a R);clear R;go_wp2;go_ret;exact⟨rfl,U.a⟩
end
end Dv
namespace Dv
open Go.RowKit
attribute [local go_sem] Oper.semAt_some
section
variable {w w' w'':World} {X X' Y:Nat->Prop} {d d':D}
theorem MA:∀args x,(callFunc 53 args).run prog x=.ok (.enter 53 args) x:=λargs x=>by have h:=func53;go_simp
theorem MC:∀args x,(callFunc 55 args).run prog x=.ok (.enter 55 args) x:=λargs x=>by have h:=func55;go_simp
theorem MD:∀args x,(callFunc 105 args).run prog x=.ok (.enter 105 args) x:=λargs x=>by have h:=func105;go_simp
structure St (w:World) (X:Nat->Prop) (d:D) (b p1 p2 p3:Nat) (vb:Value) (l:List UInt8):Prop where
 f0:w.cell? (ae b 0)=some (.func (.func 53) #[pt d.g 0] #[])
 f1:w.cell? (ae b 1)=some (.func (.func 105) #[] #[pt p1 0,pt p2 0,pt p3 0])
 f2:w.cell? (ae b 2)=some (.func (.func 55) #[pt d.g 0] #[])
 c1:w.cell? (ae p1 0)=some (pt d.g 0)
 c2:w.cell? (ae p2 0)=some (i6 0)
 c3:w.cell? (ae p3 0)=some vb
 bs:Bs w w.heap.size vb l
 len:l.length=128
 nx:∀c,c=b\/c=p1\/c=p2\/c=p3\/vb.ownBlock=some c->¬X c
theorem nU {p:Addr} {v:Value} (h:w.cell? p=some v) (_:p.spot=none):p.block<w.heap.size:=World.block_lt_of_cell? _ _ h
theorem St.bU {b p1 p2 p3:Nat} {vb:Value} {l:List UInt8} (h:St w X d b p1 p2 p3 vb l) (ht:af X w w') (hg:d'.g=d.g) (hX:∀c,X' c->X c\/w.heap.size<=c):St w' X' d' b p1 p2 p3 vb l:=by
 have J:=nU h.f0 rfl;have l1:=nU h.c1 rfl;have l2:=nU h.c2 rfl;have j:=nU h.c3 rfl;have R:∀c,vb.ownBlock=some c->c<w.heap.size:=λc I=>by obtain⟨A,k,rfl,_,_,o⟩:=h.bs.open_;obtain⟨b',o',e,hb,_⟩:=o 0 (by rw[h.len];decide);subst e;obtain rfl:b'=c:=(by injection I);exact hb
 exact{
  f0:=by rw[hg];exact(ht.cell (p:=ae b 0) J (h.nx b (.inl rfl))).trans h.f0
  f1:=(ht.cell (p:=ae b 1) J (h.nx b (.inl rfl))).trans h.f1
  f2:=by rw[hg];exact(ht.cell (p:=ae b 2) J (h.nx b (.inl rfl))).trans h.f2
  c1:=by rw[hg];exact(ht.cell (p:=ae p1 0) l1 (h.nx p1 (.inr (.inl rfl)))).trans h.c1
  c2:=(ht.cell (p:=ae p2 0) l2 (h.nx p2 (.inr (.inr (.inl rfl))))).trans h.c2
  c3:=(ht.cell (p:=ae p3 0) j (h.nx p3 (.inr (.inr (.inr (.inl rfl)))))).trans h.c3
  bs:=Co.af.bs ht h.bs λg U=>h.nx g (.inr (.inr (.inr (.inr U))))
  len:=h.len
  nx:=λc I hx=>(hX c hx).elim (h.nx c I) λhle=>by
   have:c<w.heap.size:=by
    rcases I with rfl|rfl|rfl|rfl|I
    ·exact J
    ·exact l1
    ·exact l2
    ·exact j
    ·exact R c I
   omega}
theorem Ih {b p1 p2 p3:Nat} {vb:Value} {l:List UInt8} (h:At w X d) (hS:St w X d b p1 p2 p3 vb l) (h0:0<d.n) (hk:d.qs.length<1000):
 Calls prog 105 #[pt p1 0,pt p2 0,pt p3 0] w λe w'=>e=.returned (i6 0)/\∃d',cO w X d w' d'/\d'.qs=d.qs++[(0,l)]:=by
 have c1:=hS.c1;have c2:=hS.c2;have c3:=hS.c3;have R:=ja (fV h hk 0 h0 vb l hS.len hS.bs (λb U=>hS.nx b (.inr (.inr (.inr (.inr U))))));clear h hS;go_enter func105,ntmps105;go_wp2_with fail
 refine R.a.mono ?_;rintro e o ⟨rfl,d',I,J⟩;have j:=Lib.hid (⟨I,J⟩:_/\_);clear I J;go_wp2;go_ret;exact⟨rfl,d',j.out⟩
theorem ri {b p1 p2 p3:Nat} {vb:Value} {l:List UInt8} {cap:Nat} (h:At w X d) (hS:St w X d b p1 p2 p3 vb l) (h0:0<d.n):
 Calls prog 52 #[.slice (some ⟨b,0,none⟩) 3 cap] w λe w'=>e=.returned (i6 0)/\∃d',cO w X d w' d'/\d'.qs=[]:=by
 have H:=ja h;have HS:=ja hS;have e1:=MA;have e2:=MD;have e3:=MC;clear h hS;go_enter func52,ntmps52;go_wp2;go_loopw [4,5,8] (λ_ _ u wr=>∃(j:Nat) (d':D),j<=3/\u=i6 (j:Int)/\(cO w X d wr d'\/d'=d/\wr=w)/\(j=1->d'.qs=[])/\(j=3->d'.qs=[]/\cO w X d wr d')) (λ_ _ u _=>3-(RowKit.intOf u).toNat)
 case atStart=>exact⟨0,d,by omega,rfl,.inr ⟨rfl,rfl⟩,(λh=>by cases h),(λh=>by cases h)⟩
 case round=>
  obtain⟨j,d',hj,rfl,R,hq,hE⟩:=hrel;have o:∃X',At wr X' d'/\d'.g=d.g/\d'.n=d.n/\St wr X' d' b p1 p2 p3 vb l/\(∀w'' d'',cO wr X' d' w'' d''->cO w X d w'' d''):=by
   rcases R with R|⟨rfl,rfl⟩
   ·refine⟨_,R.1,R.2.1,R.2.2.1.1,HS.a.bU R.2.2.2 R.2.1 (λc hc=>hc.elim .inl λh=>.inr h.1),λw'' d'' h=>R.trans h⟩
   ·exact⟨X,H.a,rfl,rfl,HS.a,λ_ _ h=>h⟩
  obtain⟨X',o,hg,hn,J,hT⟩:=o;have HA:=ja o;have A':=ja J;have HT:=ja hT;have HN:=ja hn;have f0:=J.f0;have f1:=J.f1;have f2:=J.f2;have HE:=ja hE;have HQ:=ja hq;clear R o J hT hE hg hn hq;rcases(show j=0\/j=1\/j=2\/j=3 by omega)with rfl|rfl|rfl|rfl
  ·(go_wp2_with fail);refine(BC HA.a (by rw[HN.a];exact h0)).mono ?_;rintro e w1 ⟨rfl,I⟩;have U:=ja (HT.a _ _ I);clear I;go_wp2;go_roundw;case rel=>exact⟨1,_,by omega,rfl,.inl U.a,λ_=>rfl,λh=>by cases h⟩
   case measure=>simp[RowKit.intOf]
  ·(go_wp2_with fail);refine(Ih HA.a A'.a (by rw[HN.a];exact h0) (by rw[HQ.a trivial];decide)).mono ?_;rintro e w1 ⟨rfl,d2,I,A0⟩;have U:=ja (HT.a _ _ I);clear I;go_wp2;go_roundw;case rel=>exact⟨2,_,by omega,rfl,.inl U.a,(λh=>by cases h),(λh=>by cases h)⟩
   case measure=>simp[RowKit.intOf]
  ·(go_wp2_with fail);refine(qW HA.a).mono ?_;rintro e w1 ⟨rfl,I⟩;have U:=ja (HT.a _ _ I);clear I;go_wp2;go_roundw;case rel=>exact⟨3,_,by omega,rfl,.inl U.a,(λh=>by cases h),λ_=>⟨rfl,U.a⟩⟩
   case measure=>simp[RowKit.intOf]
  ·go_wp2;go_ret;exact⟨rfl,d',(HE.a trivial).2,(HE.a trivial).1⟩
end
end Dv
namespace Dv
open Go.RowKit
open Ad (dP box four)
attribute [local go_sem] Oper.semAt_some
theorem CJ (w:World) (a:Nat) (h0:1<=a) (h1:a<=112):Calls prog 322 #[dP,i6 (a:Int)] w λe w'=>e=.returned (.tuple #[.agg #[i6 (-1),i6 (((a:Int)-1)/16),i6 (((a:Int)-1)%16)],i6 0])/\Bw w w':=by
 have A':decide (((a:Int)-1)/16<20)=true:=decide_eq_true om;have o: ((a:Int)-1)/16<20:=by omega
 have A0:Int.tmod ((a:Int)-1) 16=((a:Int)-1)%16:=by rw[Int.tmod_eq_emod_of_nonneg om]
 unfold dP;go_enter func322,ntmps322;go_upto_region 1 with fail
 obtain⟨k0,R⟩:=box w;have s0: (w.alloc (.cells #[i6 20,i6 2,i6 1,i6 4] 60)).heap.size=w.heap.size+1:=by simp
 generalize w.alloc (.cells #[i6 20,i6 2,i6 1,i6 4] 60)=w0 at*;have k1:=ak.new w0 450 #[i6 0,i6 0,i6 0];have U:=(Below.refl w0.heap.size w0).alloc lh (.cells #[i6 0,i6 0,i6 0] 450);rw[s0]at k1;generalize w0.alloc (.cells #[i6 0,i6 0,i6 0] 450)=w1 at*;obtain⟨g,j⟩:=ex w.heap.size;rw[j]at k0 k1|-;have K0:=ja (k0.ext U);have K1:=ja k1;have B1:=ja (R.trans (U.mono R.size));have HG:=ja j;obtain⟨x0,x1,x2,x3⟩:=four K0.a;clear k0 k1 R U s0 j;go_wp2_with fail
 refine(Ad.eB w1 a om om).mono ?_;rintro e w2 ⟨rfl,J⟩;have B2:=ja (B1.a.trans (J.mono B1.a.size));have I:=ja (K1.a.ext J);obtain⟨y0,y1,y2,y3⟩:=four (K0.a.ext J);have z0:=I.a.cell 0;have z1:=I.a.cell 1;have z2:=I.a.cell 2;have f0:=I.a.frozen;clear x0 x1 x2 x3 J;go_wp2;have z4:=((I.a.aC 0 (i6 (-1))).aC 1 (i6 (((a:Int)-1)/16))).aC 2 (i6 (((a:Int)-1)%16));refine bodyPost_ret (v:=.tuple #[.agg #[i6 (-1),i6 (((a:Int)-1)/16),i6 (((a:Int)-1)%16)],i6 0]) (bG [i6 (-1),i6 (((a:Int)-1)/16),i6 (((a:Int)-1)%16)] _ results322 rfl z4.range underlying450 rfl kj rfl) rfl ?_;have hle:w.heap.size<=g+1:=by have:=HG.a;omega
 exact⟨rfl,((B2.a.setCell (p:=ae (g+1) 0) hle _).setCell (p:=ae (g+1) 1) hle _).setCell (p:=ae (g+1) 2) hle _⟩
section
variable {w w' w'':World} {X X' Y:Nat->Prop} {d d':D} {m:Nat}
structure Md (w:World) (X:Nat->Prop) (m:Nat) (d:D):Prop where
 blk:∃vs,ak w m 129 (i6 20::i6 2::i6 1::i6 4::pt d.g 0::vs)/\vs.length=9
 dev:At w X d
 n:d.n=336
 mx:¬X m
theorem Md.lt (h:Md w X m d):m<w.heap.size:=by obtain⟨vs,h,_⟩:=h.blk;exact h.lt
theorem Md.bU (h:Md w X m d) (ht:af Y w w') (hY:∀b,(X b\/b=m)->b<w.heap.size->¬Y b):Md w' X m d where
 blk:=let⟨vs,h1,h2⟩:=h.blk;⟨vs,ht.blk h1 (hY _ (.inr rfl) h1.lt),h2⟩
 dev:=h.dev.bU ht λb I=>hY b (.inl I)
 n:=h.n
 mx:=h.mx
theorem Md.below (h:Md w X m d) (hb:Bw w w'):Md w' X m d:=h.bU (af.aj (X:=λ_=>False) hb) λ_ _ _ e=>e
theorem Md.bA (h:Md w X m d) (hM:cO w X d w' d'):Md w' (λb=>X b\/(w.heap.size<=b/\b<w'.heap.size)) m d':=by obtain⟨I,J,R,U⟩:=hM;obtain⟨vs,k1,k2⟩:=h.blk;exact⟨⟨vs,by rw[J];exact U.blk k1 h.mx,k2⟩,I,R.1.trans h.n,λe=>e.elim h.mx λe=>by have:=k1.lt;omega⟩
theorem sU (h:Md w X m d):Calls prog 154 #[pt m 0] w λe w'=>e=.returned dP/\Bw w w':=by
 obtain⟨vs,k,_⟩:=h.blk;have o:=ja k;clear h k;unfold dP;go_enter func154,ntmps154;go_upto_region 1 with fail
 have J:=ak.new w 60 #[i6 0,i6 0,i6 0,i6 0];have U:=(Below.refl w.heap.size w).alloc lh (.cells #[i6 0,i6 0,i6 0,i6 0] 60);generalize w.alloc (.cells #[i6 0,i6 0,i6 0,i6 0] 60)=w0 at*;obtain⟨g,j⟩:=ex w.heap.size;rw[j]at J|-;have hle:w.heap.size<=g:=by omega
 have R:=o.a.ext U;have c0:=R.cell 0;have c1:=R.cell 1;have c2:=R.cell 2;have c3:=R.cell 3;have x0:=J.cell 0;have x1:=J.cell 1;have x2:=J.cell 2;have x3:=J.cell 3;have f0:=J.frozen;have K4:=ja J;have B0:=ja U;have I:=ja hle;clear R J U j hle;go_wp2;have z4:=(((K4.a.aC 0 (i6 20)).aC 1 (i6 2)).aC 2 (i6 1)).aC 3 (i6 4);refine bodyPost_ret (v:=.agg #[i6 20,i6 2,i6 1,i6 4]) (cZ [i6 20,i6 2,i6 1,i6 4] _ results154 rfl z4.range underlying60 rfl kj) rfl ?_;exact⟨rfl,(((B0.a.setCell (p:=ae g 0) I.a _).setCell (p:=ae g 1) I.a _).setCell (p:=ae g 2) I.a _).setCell (p:=ae g 3) I.a _⟩
theorem Bf (h:Md w X m d) (a:Nat) (h0:1<=a) (h1:a<=112):Calls prog 298 #[pt m 0,i6 (a:Int)] w λe w'=>e=.returned (.tuple #[pt d.g 0,i6 ((a+15:Nat):Int),i6 0])/\Bw w w':=by
 obtain⟨vs,k,_⟩:=h.blk;have c0:=k.cell 0;have c1:=k.cell 1;have c2:=k.cell 2;have c3:=k.cell 3;have HK:=ja k;have R:=ja (CJ w a h0 h1);have HE:=ja (show 16+((((a:Int)-1)/16)*16+((a:Int)-1)%16)=((a+15:Nat):Int) by omega);have A0:0<=((a:Int)-1)/16/\((a:Int)-1)/16<=7:=by omega
 have A1:0<=((a:Int)-1)%16/\((a:Int)-1)%16<=15:=by omega
 clear h k;unfold dP at R;generalize((a:Int)-1)/16=q at*;generalize((a:Int)-1)%16=r at*;go_enter func298,ntmps298;go_wp2_with fail
 refine R.a.mono ?_;rintro e I ⟨rfl,U⟩;have j:=ja U;clear c0 c1 c2 c3 U;go_upto_region 2 with fail
 have J:=ak.new I 450 #[i6 (-1),i6 q,i6 r];have b4:=(Below.refl I.heap.size I).alloc lh (.cells #[i6 (-1),i6 q,i6 r] 450);generalize I.alloc (.cells #[i6 (-1),i6 q,i6 r] 450)=w2 at*;have o:=ja (j.a.trans (b4.mono j.a.size));have x0:=J.cell 0;have x1:=J.cell 1;have x2:=J.cell 2;have c4:=(HK.a.ext o.a).cell 4;have A':16+(q*16+r)=((a+15:Nat):Int):=HE.a;clear J b4;go_wp2;go_ret3;exact⟨rfl,o.a⟩
theorem yg (h:Md w X m d) (hk:d.qs.length<1000) (a:Nat) (h0:1<=a) (h1:a<=112) (vb:Value) (l:List UInt8) (hl:l.length=128) (hb:Bs w w.heap.size vb l) (hX:∀b,vb.ownBlock=some b->¬X b):
 Calls prog 282 #[pt m 0,i6 (a:Int),vb] w λe w'=>e=.returned (i6 0)/\∃d',cO w X d w' d'/\d'.qs.length=d.qs.length+1:=by
 have H:=ja h;have J:=jb hb hX;clear h hb hX;go_enter func282,ntmps282;go_wp2_with fail
 refine(Bf H.a a h0 h1).mono ?_;obtain⟨i,hi⟩:∃i:Nat,a+15=i:=⟨_,rfl⟩;have A':i<336:=by omega
 rw[hi];clear hi;rintro e w1 ⟨rfl,R⟩;have I:=ja R;clear R;go_wp2_with fail
 refine(fV (H.a.below I.a).dev hk i (by rw[H.a.n];omega) vb l hl ((J.a.ext lh I.a).more I.a.size) J.b).mono ?_;rintro e w2 ⟨rfl,d',U,j⟩;have o:=jb (cO.behind I.a U) j;clear U j;go_wp2;go_ret;exact⟨rfl,d',o.a,by rw[o.b];simp⟩
theorem py (h:Md w X m d):Calls prog 208 #[pt m 0,i6 (-1)] w λe w'=>e=.returned (i6 0)/\cO w X d w' {d with pv:=.slice none 0 0,qs:=[]}:=by
 obtain⟨vs,k,_⟩:=h.blk;have R:=k.cell 4;have H:=ja h;clear h k;go_enter func208,ntmps208;go_wp2_with fail
 refine(qW H.a.dev).mono ?_;rintro e U ⟨rfl,I⟩;have J:=ja I;clear I;go_wp2;go_ret;exact⟨rfl,J.a⟩
theorem sf (h:Md w X m d) (hk:d.qs.length<1000) (vb:Value) (l:List UInt8) (hl:l.length=128) (hb:Bs w w.heap.size vb l) (hX:∀b,vb.ownBlock=some b->¬X b):
 Calls prog 206 #[pt m 0,i6 1,vb] w λe w'=>e=.returned (i6 0)/\∃d',cO w X d w' d'/\d'.qs.length=d.qs.length+1:=by
 obtain⟨vs,k,_⟩:=h.blk;have j:=k.cell 4;have H:=ja h;have I:=jb hb hX;clear h hb hX k;go_enter func206,ntmps206;go_wp2_with fail
 refine(fV H.a.dev hk 2 (by rw[H.a.n];omega) vb l hl I.a I.b).mono ?_;rintro e o ⟨rfl,d',J,R⟩;have U:=jb J R;clear J R;go_wp2;go_ret;exact⟨rfl,d',U.a,by rw[U.b];simp⟩
end
end Dv
namespace Dv
open Go.RowKit
open Ad (dP)
attribute [local go_sem] Oper.semAt_some
theorem kO {P:Program} (w:World) (dT sT ty elem:TypeId) (g o dLen dCap:Nat) (a:Addr) (sLen sCap sz n:Nat) (cur:Array Value) (t:TypeId) (cs:List Value)
 (hu:P.underlying dT=some (.slice elem)) (hs: (P.info? elem).map (·.size)=some sz)
 (hg:w.heap[g]? =some (.cells cur t (0,0))) (hn:n=Nat.min sLen dLen) (hc:cs.length=n*sz)
 (hsrc:∀j v,cs[j]? =some v->w.cell? (a.add j)=some v) (hfit:o+cs.length<=cur.size) (h1:∀v∈cs,v.oneCell'=true):
 (Builtin.copy_ #[dT,sT] ty #[.slice (some ⟨g,o,none⟩) dLen dCap,.slice (some a) sLen sCap]).run P w=
  .ok (goInt n) (w.setRow g (cur.toList.take o++cs++cur.toList.drop (o+cs.length)).toArray):=by
 have J:=run_loadCells_list (P:=P) w a cs hsrc;have I:=run_storeCells_at P g o t cs 0 cur w hg (by simpa using hfit) h1;cases hq:P.info? elem with
 |none=>simp[hq]at hs
 |some i=>have hi:i.size=sz:=(by simpa [hq]using hs);simp[Builtin.copy_,run_underlying hu,Builtin.lenOf,Builtin.firstCells,sizeOf,typeInfo,hq,hi,<-hn,<-hc,J,I]
theorem Hp {P:Program} {Q:Exit->Act->World->Prop} {o:Oper} {a:Act} {w w':World} {K:Act->World->Prop} {v u v':Value} (s x:Nat) (t:TypeId) (ho:o.op=.call {callee:=.builtin .copy,args:=#[.tmp s,.tmp x],argTypes:=#[t,t]})
 (hs:a.tmps.getD s undef=v) (hx:a.tmps.getD x undef=u) (hrun: (Builtin.copy_ #[t,t] o.type #[v,u]).run P w=.ok v' w') (h:K (a.put o.dst v') w'):o.wp P a w K Q:=by
 have I:a.eval (.tmp s)=v:=hs;have J:a.eval (.tmp x)=u:=hx;unfold Oper.wp execOp;simp only[ho,resolve,invoke,builtin,Sem.run_bind,Sem.run_pure,Result.andThen_ok,List.map_toArray,List.map_cons,List.map_nil,I,J,hrun];exact h
theorem Cu (w:World):Calls prog 326 #[.int .u64 1,.int .u64 2] w λe w'=>e=.returned (.tuple #[.int .u64 0,.int .u64 2])/\w'=w:=by go_enter func326,ntmps326;go_wp2;go_ret2;exact⟨rfl,rfl⟩
theorem Hn (w:World):Calls prog 311 #[.int .u64 1,.int .u64 2] w λe w'=>e=.returned (.tuple #[.int .u64 0,.int .u64 2])/\w'=w:=by
 go_enter func311,ntmps311;go_wp2_with fail
 refine(Cu w).mono ?_;rintro e I ⟨rfl,rfl⟩;go_wp2;go_ret2;exact⟨rfl,rfl⟩
theorem LK: (prog.info? 402).map (λi=>(i.zero,i.size,i.bytes))=some (some (.agg #[i6 0,i6 0,i6 0]),3,24):=by kernel_rfl
theorem xL {w:World} {g c:Nat} {x0 x1 x2:Value} (h:ak w g 402 [x0,x1,x2]) (o0:x0.oneCell'=true) (o1:x1.oneCell'=true) (o2:x2.oneCell'=true):
 Calls prog 272 #[.slice (some ⟨g,0,none⟩) 1 c,i6 2] w λe w'=>e=.returned (.slice (some ⟨w.heap.size,0,none⟩) 2 2)/\Bw w w':=by
 obtain⟨J,A2,A7⟩:∃J:Array Value,J.toList.length=6/\∀W:World,(Instr.makeSlice 301 (i6 2) (i6 2)).run prog W=.ok (.slice (some ⟨W.heap.size,0,none⟩) 2 2) (W.alloc (.cells J 402)):=⟨_,by rw[Array.length_toList];exact size_madeCells _ _,run_mk (P:=prog) underlying301 LK 2 2 lh dc dc⟩;have A3:=ja A2;clear A2;have H:=ja h;have HO:Hid (∀v∈[x0,x1,x2],v.oneCell'=true):=Lib.hid (λv R=>by simp only[List.mem_cons,List.not_mem_nil,or_false]at R;rcases R with rfl|rfl|rfl<;>assumption);clear h o0 o1 o2;go_enter func272,ntmps272;go_wp2_with fail
 refine(Hn w).mono ?_;rintro e w1 ⟨rfl,rfl⟩;go_upto_region 7 with fail
 have k2:=ak.new w1 402 J;have b2:=(Below.refl w1.heap.size w1).alloc lh (.cells J 402);generalize w1.alloc (.cells J 402)=w2 at*;obtain⟨q,hq⟩:=ex w1.heap.size;have A8:=H.a.lt;rw[hq]at k2|-;have I:=kO (P:=prog) w2 301 301 3 402 q 0 2 2 (ae g 0) 1 c 3 1 J 402 [x0,x1,x2] underlying301 kj k2 rfl rfl (λj v R=>by have:=(H.a.ext b2).cell j;rw[R]at this;rw[Addr.add_mid,Nat.zero_add];exact this) (by have:=A3.a;rw[Array.length_toList]at this;simp[this]) HO.out;have k3:=k2.row (J.toList.take 0++[x0,x1,x2]++J.toList.drop (0+[x0,x1,x2].length)).toArray;have b3:=fL b2 (g:=q) om (J.toList.take 0++[x0,x1,x2]++J.toList.drop (0+[x0,x1,x2].length)).toArray;obtain⟨D3,U⟩:∃D3:List Value,D3=J.toList.take 0++[x0,x1,x2]++J.toList.drop (0+[x0,x1,x2].length):=⟨_,rfl⟩;rw[<-U]at I k3 b3;have A':D3.length=6:=by rw[U];simp[A3.a]
 have A0:D3.take 3=[x0,x1,x2]:=by rw[U];simp
 have A9:goInt ((1:Nat):Int)=i6 1:=rfl;rw[A9]at I;generalize w2.setRow q D3.toArray=w3 at*;have K3:=ja k3;have B3:=ja b3;have HD:=jb A' A0;have HQ:=ja hq;clear k2 b2 k3 b3 U A' A0 hq A7 A8;have A4:goInt ((1:Nat):Int)=i6 1:=rfl;have Ao:∀W:World,(Instr.slice 301 (.slice (some ⟨q,0,none⟩) 2 2) (some (i6 1)) none none).run prog W=.ok (.slice (some ⟨q,3,none⟩) 1 1) W:=λW=>by kernel_rfl
 have Aq:∀W:World,(Instr.slice 301 (.slice (some ⟨q,0,none⟩) 2 2) none (some (i6 1)) none).run prog W=.ok (.slice (some ⟨q,0,none⟩) 1 2) W:=λW=>by kernel_rfl
 go_wp2;go_loopw [8] (λu wr=>∃D:List Value,(u=i6 1\/u=i6 2)/\ak wr q 402 D/\D.length=6/\D.take 3=[x0,x1,x2]/\Bw w1 wr) (λu _=>2-(RowKit.intOf u).toNat)
 case atStart=>exact⟨_,.inl rfl,K3.a,HD.a,HD.b,B3.a⟩
 case round=>
  obtain⟨D,hu,hk,hl,ht,hb⟩:=hrel;have HH:=jd hk hl ht hb;rcases hu with rfl|rfl
  ·(go_upto_region 9 with fail);obtain⟨w4,A1⟩:=ex wr.drew;have b4:Bw wr w4:=(by subst A1;exact(Below.refl _ wr).drew);have k4:=hk.ext b4;have I:=kO (P:=prog) w4 301 301 3 402 q 3 1 1 (ae q 0) 1 2 3 1 D.toArray 402 [x0,x1,x2] underlying301 kj k4 rfl rfl (λj v R=>by
    rw[Addr.add_mid,Nat.zero_add,k4.cell j];rw[<-ht,List.getElem?_take]at R;split at R
    ·exact R
    ·cases R) (by simp[hl]) HO.out
   have k5:=k4.row (D.toArray.toList.take 3++[x0,x1,x2]++D.toArray.toList.drop (3+[x0,x1,x2].length)).toArray;have b5:=fL (hb.trans (b4.mono hb.size)) (g:=q) (by rw[<-HQ.a];exact Nat.le_refl _) (D.toArray.toList.take 3++[x0,x1,x2]++D.toArray.toList.drop (3+[x0,x1,x2].length)).toArray;obtain⟨D5,o⟩:∃D5:List Value,D5=D.toArray.toList.take 3++[x0,x1,x2]++D.toArray.toList.drop (3+[x0,x1,x2].length):=⟨_,rfl⟩;rw[<-o]at I k5 b5;have A5:D5.length=6:=(by rw[o];simp[hl]);have A6:D5.take 3=[x0,x1,x2]:=(by rw[o];simp only[List.toList_toArray,ht];simp);rw[A4]at I;generalize w4.setRow q D5.toArray=w5 at*;have H5:=Lib.hid (⟨k5,A5,A6,b5⟩:_/\_/\_/\_);clear hk hl ht hb b4 k4 k5 b5 A5 A6 o;rw[<-A1]at I;clear A1;refine dF 10 [i6 1,.slice (some ⟨q,0,none⟩) 2 2,i6 1,.slice (some ⟨q,3,none⟩) 1 1,.slice (some ⟨q,0,none⟩) 2 2,i6 1,.slice (some ⟨q,0,none⟩) 1 2,i6 1,i6 2,i6 2] (λf_ q_=>q_=cond (f_ 7) (w5) (wr.drew)) kj rfl kj rfl ?_ ?_
   ·refine⟨cz [] [8],cz [] [7],cz [] [8],cz [1,39,2,40] [],cz [] [7],cz [] [8],cz [4,42,5,43] [],?_,cz [0,38,7,45] [],cz [8,46] [],trivial⟩
    ·intro f a x AI Aa Ab hG hd hs K hK;have n7:f 7=false:=AI;have hx:=hG;rw[n7]at hx;simp only[cond_true,cond_false]at hx;have Ad:_=_:=hd 3 41 kj;have Ae:_=_:=hd 6 44 kj;clear hd hs Aa Ab;have hN: (w5)=cond (decide (7=7)||f 7) (w5) (wr.drew):=(by simp only[Nat.reduceEqDiff,decide_true,decide_false,Bool.false_or,Bool.true_or,n7,cond_true,cond_false]);subst hx;have Ar:=ja hG;clear hG;have Ah:=ja hN;clear hN;refine pj ?_;refine Hp 41 44 301 rfl Ad Ae I ?_;exact hK _ _ rfl Ah.a
   ·intro x hG;replace hG:x=w5:=hG;subst hG;(iterate 10 rintro _ rfl);simp only[ap];(try simp only[Exit.then]);go_wp2;go_roundw;case rel=>exact⟨D5,.inr rfl,H5.out⟩
    case measure=>simp[RowKit.intOf]
  ·go_wp2;go_ret;refine⟨?_,HH.d⟩;rw[HQ.a];rfl
theorem EL (w:World):Calls prog 237 #[i6 2] w λe w'=>(∃A n c,e=.returned (.tuple #[.slice A n c,i6 0]))/\Bw w w':=by
 go_enter func237,ntmps237;go_wp2_with fail
 have k2:=ak.new w 402 #[i6 (-1),i6 0,i6 0];have I:=(Below.refl w.heap.size w).alloc lh (.cells #[i6 (-1),i6 0,i6 0] 402);generalize w.alloc (.cells #[i6 (-1),i6 0,i6 0] 402)=w2 at*;refine(xL k2 rfl rfl rfl).mono ?_;rintro e U ⟨rfl,J⟩;have R:=ja (I.trans (J.mono I.size));clear k2 I J;go_wp2;go_ret2;exact⟨⟨_,_,_,rfl⟩,R.a⟩
section
variable {w w' w'':World} {X X' Y:Nat->Prop} {d d':D} {m:Nat}
theorem xl (h:Md w X m d) {f:Nat} {v1 v2:Value} (hf:ak w f 303 [pt m 0,v1,v2]):
 Calls prog 198 #[pt f 0] w λe w'=>e=.returned (.tuple #[])/\af (· =f) w w':=by
 have H:=ja h;have o:=ja hf;have c0:=hf.cell 0;clear h hf;go_enter func198,ntmps198;go_wp2_with fail
 refine(sU H.a).mono ?_;rintro e w1 ⟨rfl,J⟩;unfold dP;have R:=ja J;have A':∀W:World,(Instr.field 60 (.agg #[i6 20,i6 2,i6 1,i6 4]) 1).run prog W=.ok (i6 2) W:=λW=>by kernel_rfl
 clear c0 J;go_wp2_with fail
 refine(EL w1).mono ?_;rintro e w2 ⟨⟨A,n,c,rfl⟩,U⟩;have j:=ja (R.a.trans (U.mono R.a.size));have I:=o.a.ext j.a;have c1:=I.cell 1;have f1:=I.frozen 1;clear U I;go_wp2;go_end0;exact⟨rfl,(af.aj j.a).trans (Co.af.setCell w2 f 1 (.slice A n c)) λ_ e=>.inl e⟩
theorem FC (h:Md w X m d):Calls prog 155 #[pt m 0] w λe w'=>(∃f,e=.returned (pt f 0))/\Bw w w':=by
 have H:=ja h;clear h;go_enter func155,ntmps155;go_upto_region 2 with fail
 have k2:=ak.new w 303 #[pt m 0,.slice none 0 0,i6 0];have J:=(Below.refl w.heap.size w).alloc lh (.cells #[pt m 0,.slice none 0 0,i6 0] 303);generalize w.alloc (.cells #[pt m 0,.slice none 0 0,i6 0] 303)=w2 at*;have U:=ja k2;have I:=ja J;clear k2 J;go_wp2_with fail
 refine(xl (H.a.below I.a) U.a).mono ?_;rintro e o ⟨rfl,R⟩;have j:=ja (I.a.trans (R.bm (B:=w.heap.size) I.a.size λi e=>by rw[e];exact Nat.le_refl _));clear R;go_wp2;go_ret;exact⟨⟨_,rfl⟩,j.a⟩
end
end Dv
namespace Co
open Go.RowKit
open Ad (dP)
open Dv (D Md)
attribute [local go_sem] Oper.semAt_some
def zi:Value:=i6 0
def df:List Value:=(List.replicate 40 [zi,.int .u32 0,zi]).flatten
def mF:List Value:=List.replicate 40 zi
def dQ:List Value:=(List.replicate 4 [zi,.int .u32 0]).flatten
theorem vW (l1 l2 l3:Nat) (W:World): (Instr.build 103 #[(0,.map (some l1)),(3,.map (some l2)),(4,.map (some l3))]).run prog W=.ok (.agg (.map (some l1)::(df++(mF++[Value.map (some l2),Value.map (some l3)]))).toArray) W:=by kernel_rfl
def lv (m f l1 l2 l3 l4 l5 g:Nat) (own:Nat->Nat):C:=
 {k:={m:=pt m 0,g1:=20,g2:=2,g3:=1,g4:=4,cache:=pt f 0,aY:=l4,maps:=dQ,bad:=l5,used:=List.replicate 8 zi,aU:=.slice none 0 0,nQ:=[],seq:=1,at_:=1,next:=1,chain:=.slice none 0 0,aT:=0}
  g:=g,files:=l1,gone:=l2,aB:=l3,b_:=[],cL:=[],aF:=df,av:=mF,tick:=0,age:=0,own:=own}
theorem yr (m f l1 l2 l3 l4 l5:Nat) (W:World): (Instr.build 110 #[(0,pt m 0),(1,dP),(2,pt f 0),(3,.agg (.map (some l1)::(df++(mF++[Value.map (some l2),Value.map (some l3)]))).toArray),(4,.map (some l4)),(6,.map (some l5)),(10,i6 1),(11,i6 1),(12,i6 1)]).run prog W
 =.ok (.agg (lv m f l1 l2 l3 l4 l5 0 (λ_=>0)).cells.toArray) W:=by
 kernel_rfl
def La (w:World) (m:Nat) (e:Ending) (w':World):Prop:=∃f l1 l2 l3 l4 l5 g own,e=.returned (pt g 0)/\bD w' (lv m f l1 l2 l3 l4 l5 g own) []/\ay w' prog 3 l4 []/\own l4=0/\l4≠l5/\(∀b,b<w.heap.size->own b=0)/\w.heap.size<=l4/\w.heap.size<=l5/\Bw w w'
section
variable {w w' w'':World} {X X' Y:Nat->Prop} {d d':D} {m:Nat}
theorem C5 (h:Md w X m d) (hH:a7 w) (hR:nW w):Calls prog 111 #[pt m 0] w (La w m):=by
 have H:=ja h;have HG:=jb hH hR;have A4:=@run_makeMap prog;obtain⟨SS,U⟩:∃SS:Nat->Nat->Nat->Array Value,SS=λl1 l2 J=>(.map (some l1)::(df++(mF++[Value.map (some l2),Value.map (some J)]))).toArray:=⟨_,rfl⟩;obtain⟨R,j⟩:∃R:Nat->Nat->Nat->Nat->Nat->Nat->Array Value,R=λf l1 l2 J l4 l5=>(lv m f l1 l2 J l4 l5 0 (λ_=>0)).cells.toArray:=⟨_,rfl⟩;have A':∀l1 l2 J W,(Instr.build 103 #[(0,.map (some l1)),(3,.map (some l2)),(4,.map (some J))]).run prog W=.ok (.agg (SS l1 l2 J)) W:=λl1 l2 J W=>by rw[U];exact vW l1 l2 J W
 have A0:∀f l1 l2 J l4 l5 W,(Instr.build 110 #[(0,pt m 0),(1,dP),(2,pt f 0),(3,.agg (SS l1 l2 J)),(4,.map (some l4)),(6,.map (some l5)),(10,i6 1),(11,i6 1),(12,i6 1)]).run prog W=.ok (.agg (R f l1 l2 J l4 l5)) W:=λf l1 l2 J l4 l5 W=>by rw[j,U];exact yr m f l1 l2 J l4 l5 W
 have HB:=jb A' A0;have A2:=ja j;clear h hH hR U j A' A0;go_enter func111,ntmps111;go_wp2_with fail
 refine(Dv.sU H.a).mono ?_;rintro e w1 ⟨rfl,b1⟩;have B1:=ja b1;clear b1;go_wp2_with fail
 refine(Dv.FC (H.a.below B1.a)).mono ?_;rintro e o ⟨⟨f,rfl⟩,b2⟩;have B2:=ja (B1.a.trans (b2.mono B1.a.size));clear b2;go_wp2_with(first|(refine wpList_build rfl 103 [(0,.tmp 8),(3,.tmp 9),(4,.tmp 10)] rfl (r:=?r) ?h1 ?_;case h1=>exact HB.a _ _ _ _)|(refine wpList_build rfl 110 [(0,.tmp 3),(1,.tmp 5),(2,.tmp 7),(3,.tmp 11),(4,.tmp 12),(6,.tmp 13),(10,.const (i6 1)),(11,.const (i6 1)),(12,.const (i6 1))] rfl (r:=?r2) ?h2 ?_;case h2=>exact HB.b _ _ _ _ _ _ _))
 have m1:=ay.made o prog 3;have c1:=(Below.refl o.heap.size o).alloc lh (.map #[] 0);have s1: (o.alloc (.map #[] 0)).heap.size=o.heap.size+1:=by simp
 generalize o.alloc (.map #[] 0)=x1 at*;have m2:=ay.made x1 prog 3;have c2:=(Below.refl x1.heap.size x1).alloc lh (.map #[] 0);have s2: (x1.alloc (.map #[] 0)).heap.size=x1.heap.size+1:=by simp
 generalize x1.alloc (.map #[] 0)=x2 at*;have m3:=ay.made x2 prog 3;have c3:=(Below.refl x2.heap.size x2).alloc lh (.map #[] 0);have s3: (x2.alloc (.map #[] 0)).heap.size=x2.heap.size+1:=by simp
 generalize x2.alloc (.map #[] 0)=x3 at*;have m4:=ay.made x3 prog 3;have c4:=(Below.refl x3.heap.size x3).alloc lh (.map #[] 0);have s4: (x3.alloc (.map #[] 0)).heap.size=x3.heap.size+1:=by simp
 generalize x3.alloc (.map #[] 0)=x4 at*;have m5:=ay.made x4 prog 3;have c5:=(Below.refl x4.heap.size x4).alloc lh (.map #[] 0);have s5: (x4.alloc (.map #[] 0)).heap.size=x4.heap.size+1:=by simp
 generalize x4.alloc (.map #[] 0)=x5 at*;obtain⟨n,hn⟩:=ex o.heap.size;rw[hn]at m1 s1|-;rw[s1]at m2 s2;rw[s2]at m3 s3;rw[s3]at m4 s4;rw[s4]at m5 s5;obtain⟨own,I⟩:∃own:Nat->Nat,own=λb=>if b=n+1+1+1+1+1 then 1 else if b=n then 2 else if b=n+1 then 3 else if b=n+1+1 then 4 else 0:=⟨_,rfl⟩
 have hk:=ak.new x5 110 (R f n (n+1) (n+1+1) (n+1+1+1) (n+1+1+1+1));have hb:=(Below.refl x5.heap.size x5).alloc lh (.cells (R f n (n+1) (n+1+1) (n+1+1+1) (n+1+1+1+1)) 110);have hs: (x5.alloc (.cells (R f n (n+1) (n+1+1) (n+1+1+1) (n+1+1+1+1)) 110)).heap.size=x5.heap.size+1:=by simp
 have A3: (R f n (n+1) (n+1+1) (n+1+1+1) (n+1+1+1+1)).toList=(lv m f n (n+1) (n+1+1) (n+1+1+1) (n+1+1+1+1) (n+1+1+1+1+1) own).cells:=by rw[A2.a];rfl
 rw[A3,s5]at hk;generalize x5.alloc (.cells (R f n (n+1) (n+1+1) (n+1+1+1) (n+1+1+1+1)) 110)=x6 at*;have s0:=B2.a.size;have d4:=c5.trans (hb.mono c5.size);have d3:=c4.trans (d4.mono c4.size);have d2:=c3.trans (d3.mono c3.size);have d1:=c2.trans (d2.mono c2.size);have d0:=c1.trans (d1.mono c1.size);have BB:=B2.a.trans (d0.mono s0);have A1:∀b,b<w.heap.size->own b=0:=λb hb=>by rw[I];simp only[];rw[if_neg om,if_neg om,if_neg om,if_neg om]
 have A5:1<w.heap.size:=World.block_lt_of_cell? _ _ (HG.a 0 dc);go_ret;refine⟨f,n,n+1,n+1+1,n+1+1+1,n+1+1+1+1,n+1+1+1+1+1,own,rfl,?_,m4.ext d4,by rw[I];simp only[];rw[if_neg om,if_neg om,if_neg om,if_neg om],by omega,A1,by omega,by omega,BB⟩;exact{
  core:=hk
  len:=⟨rfl,rfl,rfl,rfl,by show(0:Int)<=0;decide,by show(0:Int)<=2147483647;decide⟩
  files:=m1.ext d1
  gone:=m2.ext d2
  aB:=m3.ext d3
  bad:=m5.ext hb
  o1:=by show own (n+1+1+1+1+1)=1;rw[I];simp
  o2:=by show own n=2;rw[I];simp only[];rw[if_neg om,if_pos trivial]
  o3:=by show own (n+1)=3;rw[I];simp only[];rw[if_neg om,if_neg om,if_pos trivial]
  o4:=by show own (n+1+1)=4;rw[I];simp only[];rw[if_neg om,if_neg om,if_neg om,if_pos trivial]
  ob:=by show own (n+1+1+1+1)=0;rw[I];simp only[];rw[if_neg om,if_neg om,if_neg om,if_neg om]
  hi:=λb hb=>by show own b=0;rw[I];simp only[];rw[if_neg om,if_neg om,if_neg om,if_neg om]
  fi:=λi f hf=>by simp at hf
  aU:=⟨by have:=bw.fp x6 x6.heap.size 2;simpa [lv]using this,λb hb=>by cases hb⟩
  gl:={
   halves:=λk hk=>(BB.cell (p:=ae 1 k) (World.block_lt_of_cell? _ _ (HG.a k hk))).trans (HG.a k hk)
   D_:=λk n hn=>(BB.cell (p:=ae 0 k) (World.block_lt_of_cell? _ _ (HG.b k n hn))).trans (HG.b k n hn)
   og:=λb hb=>A1 b om}
  gM:=by decide}
end
end Co
end Go.Proofs.YtdhgejiacehpbaaGreatDoor
