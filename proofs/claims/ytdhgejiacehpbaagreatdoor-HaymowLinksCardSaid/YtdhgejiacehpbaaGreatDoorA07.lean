import Derived.Test.YtdhgejiacehpbaaGreatDoorA06
import Derived.Laws.OwnMore
import Derived.OwnWalk
set_option maxRecDepth 100000
set_option maxHeartbeats 16000000
set_option linter.all false
namespace Go.Proofs.YtdhgejiacehpbaaGreatDoor
open Go.Proofs.Tryz
namespace Sq
open Go.RowKit
open Co (af.setCell)
section
variable {w:World}
def sW (l:List UInt8) (r:Nat):List UInt8:=l.take r++List.replicate (128-r) 0
theorem EN (l:List UInt8) (r:Nat) (hl:l.length=128) (hr:r<=128): (sW l r).length=128:=by unfold sW;simp[hl];omega
theorem Dt (l:List UInt8) (r:Nat) (hl:l.length=128) (hr:r<=128):mS (dU l) r (List.replicate (128-r) (.int .u8 0))=dU (sW l r):=by unfold mS sW dU;rw[List.map_append,List.map_take,List.map_replicate,List.drop_of_length_le (by simp[hl];omega),List.append_nil];rfl
theorem iD (v:Value) (S size:Nat) (ps:List Pc) (w:World) (h:fj w w.heap.size v ps) (hv:Vd S ps) (hl:ps.length<=1) (hs:size<=463488) (hn:∀p∈ps,p.n=size/128/\size%128≠0/\size<S) (h0:ps=[]->S<=size\/size%128=0):
 Calls prog 183 #[.agg #[i6 (S:Int),v],i6 (size:Int)] w (N6 w size (ps.map λp=>(p.n,sW p.l (size%128))) (ps.map λp=>(p.n:Int))):=by
 obtain⟨A,c,rfl,hc,hm,B'⟩:=h.open_;have H:=ja h;have HV:=ja hv;have HN:=ja hn;have H0:=ja h0;have HS:=ja hs;have e1:¬(463488:Int)<(size:Int):=by omega
 have e2:¬(size:Int)<0:=by omega
 clear h hv B' hn h0;go_enter func183,ntmps183;go_upto_region 1 with fail
 generalize hW: (w.alloc (.cells _ 158)).alloc (.cells _ 158)=w0;have k3:ak w0 w.heap.size 158 [i6 (S:Int),.slice A ps.length c]:=by rw[<-hW];exact(ak.new w _ _).alloc _
 have k6:ak w0 (w.heap.size+1) 158 [i6 0,.slice none 0 0]:=by rw[<-hW];have:=ak.new (w.alloc (.cells #[i6 (S:Int),.slice A ps.length c] 158)) 158 #[i6 0,.slice none 0 0];rw[World.size_alloc]at this;exact this
 have b0:Bw w w0:=by rw[<-hW];exact(bh.alloc lh _).alloc sj _
 clear hW;obtain⟨g,hg⟩:=ex w.heap.size;have F0:w.heap.size<=g:=by omega
 rw[hg]at k3 k6|-;have HG:=ja hg;clear hg;have D5:w0.cell? (ae g 0)=some (i6 (S:Int)):=k3.cell 0;have Dv:w0.cell? (ae g 1)=some (.slice A ps.length c):=k3.cell 1;go_wp2_with fail
 refine(cP _ S ps w0 (H.a.up b0) HV.a om).mono ?_;rintro e w1 ⟨rfl,b1⟩;replace k3:=k3.ext b1;replace k6:=k6.ext b1;have H1:=ja ((H.a.up b0).up b1);replace b0:=b0.trans (b1.mono b0.size);have Ao:=k3.lt;have d0:w1.cell? (ae g 0)=some (i6 (S:Int)):=k3.cell 0;have d1:w1.cell? (ae g 1)=some (.slice A ps.length c):=k3.cell 1;have B0:=ja b0;have K6:=ja k6;have K3:=ja k3;have B9:=λW=>qV A ps.length c ps.length hc (ps.length:Int) rfl W;clear b1 k3 k6 b0 D5 Dv;go_upto_region 5 with fail
 have BB:Bw w1 w1.drew:=bh.drew;refine aQ 12 11 [(ez (i6 (size:Int))),(ez (pt g 1)),(ez (.slice A ps.length c)),(ez (.agg #[i6 (S:Int),.slice A ps.length c])),(ez (i6 (size:Int))),(ez (i6 (Sp.nb size:Nat))),(ez (i6 (ps.length:Int))),(ez (.slice A ps.length c)),(λu q=>fX w1 ps u q),(λu q=>∃y,u=.agg #[i6 (size:Int),y]/\fX w1 ps y q),(λu q=>∃g7,u=pt g7 0/\w1.heap.size<=g7/\ak q g7 158 [i6 0,.slice none 0 0])]
  (λq=>Bw w1 q) kj rfl dc kj kj ?_ ?_ ?_ ?_
 ·exact BB
 ·exact⟨ah _,ah _,ah _,ah _,ah _,ah _,ah _,ah _,λ_ _ _ h J=>h.ext J,λ_ _ _ ⟨y,h1,h2⟩ J=>⟨y,h1,h2.ext J⟩,λ_ _ _ ⟨y,h1,h2,h3⟩ J=>⟨y,h1,h2,h3.ext J⟩,trivial⟩
 ·refine⟨rz [] [1],rz [] [2],rx [1,23] [] λx hG=>cl hG Ao d1,rx [] [2] λx hG=>And.intro (cl hG Ao d0) (cl hG Ao d1),rz [] [1],?_,?_,rx [2,24,6,28] [] λx hG=>B9 x,?_,?_,?_,trivial⟩
  ·intro a x hG hd hs K hK;have F1:_=_:=hd 4 26 kj;clear hd hs;refine pj ?_;go_simp;refine(ij size _ om).mono ?_;rintro e w' ⟨rfl,rfl⟩;exact hK _ _ rfl hG bh
  ·intro a x hG hd hs K hK;have F2:_=_:=hd 3 25 kj;have F3:_=_:=hd 5 27 kj;clear hd hs;refine pj ?_;go_simp;refine(cN _ ps _ (Sp.nb size) _ rfl _ (H1.a.up hG) HV.a.inc om).mono ?_;rintro e w' ⟨rfl,J⟩;rw[tA λp hp=>by obtain⟨q1,q2,_⟩:=HN.a p hp;unfold Sp.nb;omega];exact hK _ _ rfl (hG.trans (J.mono hG.size)) J
  ·intro a x hG hd hs K hK;have F4:_=_:=hd 7 29 kj;clear hd hs;refine pj ?_;go_simp;refine(oR _ ps _ (H1.a.up hG) om).mono ?_;rintro e w' hn;obtain⟨u,rfl,B1,B3⟩:=fX.of hn hG.size;exact hK _ _ B1 (hG.trans (B3.mono hG.size)) B3
  ·intro a x hG hd hs K hK;have E1:_=_:=hd 0 22 kj;have EX:=aA E1;have B4:=hd 8 30 kj;clear hd hs;refine pj ?_;obtain⟨uu,BO⟩:=ex (a.tmps.getD 30 undef);rw[BO]at B4;obtain⟨R,c',U,rfl⟩:=B4.slice;have F5:=aA BO;go_simp;exact hK _ _ ⟨_,rfl,B4⟩ hG bh
  ·intro a x hG hd hs K hK;clear hd hs;refine pj ?_;go_simp;exact hK _ _ ⟨_,rfl,hG.size,ak.new _ _ _⟩ (hG.alloc hG.size _) (bh.alloc lh _)
 ·intro x hG;(iterate 8 rintro _ rfl);rintro v8 E4 v9 E5 v10 BQ;simp only[ap];rw[show List.range' 11 (12-11)=[11]from rfl,wpOps_cons];obtain⟨y,rfl,qs,A0,A7,Aq⟩:=E5;obtain⟨g7,rfl,Ar,k7⟩:=BQ;obtain⟨R,c',U,rfl⟩:=fX.slice ⟨qs,A0,A7,Aq⟩;have k6:=K6.a.ext hG;have x0:=k7.cell 0;have x1:=k7.cell 1;have xf:=k7.frozen;have n7:=aW Aq k7 dc;have T:=(af.setCell x g7 0 (i6 (size:Int))).trans (af.setCell _ g7 1 (.slice R U c')) (λ_ h=>.inl h);have hW:∃W,(x.setCell (ae g7 0) (i6 (size:Int))).setCell (ae g7 1) (.slice R U c')=W:=⟨_,rfl⟩;obtain⟨W,hW⟩:=hW;have A8:ak W g7 158 [i6 (size:Int),.slice R U c']:=(by rw[<-hW];exact(k7.aC 0 (i6 (size:Int))).aC 1 (.slice R U c'));rw[hW]at T;have Aw:Own w1.heap.size W qs:=λq hq=>(by obtain⟨g9,h1,h2,h3,h4⟩:=A7 q hq;refine⟨g9,h1,T.blk h2 (λe=>?_),h3,h4⟩;subst e;have:=h2.symm.trans k7;injection this with this;injection this with _ this;revert this;decide);have A1:=cE Aq T (λb J e=>n7 (by rw[J,e]));have A9:=T.blk k6 (oa K6.a.lt);have Bg:Bw w1 W:=(by rw[<-hW];exact(hG.setCell (p:=ae g7 0) Ar _).setCell (p:=ae g7 1) Ar _);have Bt:=T.blk (K3.a.ext hG) (oa Ao);have Bu:qs.length=ps.length:=(by have:=congrArg List.length A0;simpa using this);have HF:=ja (⟨A0,Aw,A1,A9,Bg⟩:qs.map nl=ps.map nl/\Own w1.heap.size W qs/\W.ownsRow w1.heap.size 225 2 (.slice R U c') qs.length (aZ qs)/\ak W (g+1) 158 [i6 0,.slice none 0 0]/\Bw w1 W);have K7:=ja A8;have E6:=ja Bt;have By:=ja (⟨Ar,Bu⟩:w1.heap.size<=g7/\qs.length=ps.length);refine pj ?_;go_simp;unfold wpOps;simp only[Exit.then];clear A0 A7 Aq k6 k7 x0 x1 xf n7 T hW A8 Aw A1 A9 Bg Bu hG BB E4 d0 d1 B9 Bt Ar;have d0:W.cell? (ae g 0)=some (i6 (S:Int)):=E6.a.cell 0;have d7:W.cell? (ae g7 0)=some (i6 (size:Int)):=K7.a.cell 0;have d8:W.cell? (ae g7 1)=some (.slice R U c'):=K7.a.cell 1;have z1:W.cell? (ae (g+1) 0)=some (i6 0):=HF.a.2.2.2.1.cell 0;have z2:W.cell? (ae (g+1) 1)=some (.slice none 0 0):=HF.a.2.2.2.1.cell 1;have z3:=HF.a.2.2.2.1.frozen;by_cases As:ps=[]
  ·have h0:=H0.a As;obtain rfl:qs=[]:=(by have:=By.a.2;rw[As]at this;exact List.eq_nil_of_length_eq_zero this);subst As;have c1: (S:Int)<=(size:Int)\/(size:Int)%128=0:=(by omega);by_cases c2: (S:Int)<=(size:Int)
   ·clear c1;(go_wp2_with fail);obtain⟨-,C4,A2,B5,b9⟩:=HF.a;have zz:=(B5.aC 0 (i6 (size:Int))).aC 1 (.slice R U c');refine bodyPost_ret (v:=.tuple #[.agg #[i6 (size:Int),.slice R U c'],.slice none 0 0,i6 0]) (ia [i6 (size:Int),.slice R U c'] _ results183 rfl zz.range underlying158 rfl mz rfl rfl) rfl ?_;have T4:=(af.setCell W (g+1) 0 (i6 (size:Int))).trans (af.setCell _ (g+1) 1 (.slice R U c')) (λ_ h=>.inl h);have A3:=B0.a;have hle:w.heap.size<=w1.heap.size:=A3.size;have o:∀p:Nat,p=g+1->w.heap.size<=p:=λp hp=>(by omega);have AI:=K6.a.lt;have I:=cE A2 T4 (λb J=>by have:=(A2.lt b J).1;omega);have A4:Own w1.heap.size ((W.setCell (ae (g+1) 0) (i6 (size:Int))).setCell (ae (g+1) 1) (.slice R U c')) []:=λq' AR=>(by cases AR);exact⟨_,[],_,rfl,rfl,A4.base hle,A4.JF I,bw.fp _ _ _,((A3.trans (b9.mono hle)).setCell (p:=ae (g+1) 0) (o _ rfl) _).setCell (p:=ae (g+1) 1) (o _ rfl) _,λb J=>⟨Nat.le_trans hle (I.lt b J).1,(I.lt b J).2⟩,λb J=>by cases J⟩
   ·have c3: (size:Int)%128=0:=(by omega);clear c1;(go_wp2_with fail);obtain⟨-,C4,A2,B5,b9⟩:=HF.a;have zz:=(B5.aC 0 (i6 (size:Int))).aC 1 (.slice R U c');refine bodyPost_ret (v:=.tuple #[.agg #[i6 (size:Int),.slice R U c'],.slice none 0 0,i6 0]) (ia [i6 (size:Int),.slice R U c'] _ results183 rfl zz.range underlying158 rfl mz rfl rfl) rfl ?_;have T4:=(af.setCell W (g+1) 0 (i6 (size:Int))).trans (af.setCell _ (g+1) 1 (.slice R U c')) (λ_ h=>.inl h);have A3:=B0.a;have hle:w.heap.size<=w1.heap.size:=A3.size;have o:∀p:Nat,p=g+1->w.heap.size<=p:=λp hp=>(by omega);have AI:=K6.a.lt;have I:=cE A2 T4 (λb J=>by have:=(A2.lt b J).1;omega);have A4:Own w1.heap.size ((W.setCell (ae (g+1) 0) (i6 (size:Int))).setCell (ae (g+1) 1) (.slice R U c')) []:=λq' AR=>(by cases AR);exact⟨_,[],_,rfl,rfl,A4.base hle,A4.JF I,bw.fp _ _ _,((A3.trans (b9.mono hle)).setCell (p:=ae (g+1) 0) (o _ rfl) _).setCell (p:=ae (g+1) 1) (o _ rfl) _,λb J=>⟨Nat.le_trans hle (I.lt b J).1,(I.lt b J).2⟩,λb J=>by cases J⟩
  ·obtain⟨p,rfl⟩:∃p,ps=[p]:=by
    match ps,hl,As with
    |[p],_,_=>exact⟨p,rfl⟩
   obtain⟨q,rfl⟩:∃q,qs=[q]:=List.length_eq_one_iff.1 By.a.2;obtain⟨B1,B3,F6⟩:=HN.a p (List.mem_singleton.2 rfl);have c1:¬(S:Int)<=(size:Int):=(by omega);obtain⟨r,hr⟩:∃r:Nat,(size:Int)%128=(r:Int):=⟨size%128,by omega⟩;obtain⟨last,E7⟩:∃last:Nat,(size:Int)/128=(last:Int):=⟨size/128,by omega⟩;have F7: ((r:Int)==0)=false:=(by rw[beq_eq_false_iff_ne];omega);(go_wp2_with fail);have A0:=HF.a.1;simp only[List.map_cons,List.map_nil,nl,List.cons.injEq,Prod.mk.injEq,and_true]at A0;obtain⟨g9,Aa,k9,Ab,A6⟩:=HF.a.2.1 q (List.mem_singleton.2 rfl);have Ad:=qT (.slice R U c') [q] (size:Int) last (last:Int) rfl W (HF.a.2.1.JF HF.a.2.2.1) (List.pairwise_singleton _ _) sj 0 sj (by show q.n=last;omega);rw[show [q][0].v=.slice (some ⟨g9,0,none⟩) 128 128 from Aa]at Ad;refine Ad.mono ?_;rintro e w2 ⟨rfl,b2⟩;clear Ad;have E8:g7≠g9:=λe=>(by subst e;have:=k9.symm.trans K7.a;injection this with this;injection this with _ this;revert this;decide);have Ae:=k9.ext b2;have A1:=aD HF.a.2.2.1 b2;have A9:=HF.a.2.2.2.1.ext b2;have A8:=K7.a.ext b2;have B2:=ja (HF.a.2.2.2.2.trans (b2.mono HF.a.2.2.2.2.size));obtain⟨m,F8⟩:∃m,r+m=128:=⟨128-r,by omega⟩;have E9:0<m:=(by omega);have CC:∀W,(Instr.slice 23 (.slice (some ⟨g9,0,none⟩) 128 128) (some (i6 (r:Int))) none none).run prog W=.ok (.slice (some ⟨g9,r,none⟩) m m) W:=λW=>(by have e:=ig (some ⟨g9,0,none⟩) 128 128 r om (r:Int) rfl W;rw[if_neg om,show 128-r=m by omega]at e;have EC:r≠0:=(by omega);simpa [Addr.add,EC]using e);have Ax:∀ty,(Builtin.clear_ #[23] ty #[.slice (some ⟨g9,r,none⟩) m m]).run prog w2=.ok (.tuple #[]) (w2.setCells g9 r (List.replicate m (.int .u8 0))):=λty=>Lib.run_clear_slice w2 23 5 ty (.int .u8 0) kj (λ_=>by kernel_rfl) rfl rfl g9 r m m E9 (λj hj=>(Ae.there r m (by rw[gG,A6];omega) j hj).1) (λj hj=>Ae.frozen _);obtain⟨W3,B6⟩:=ex (w2.setCells g9 r (List.replicate m (.int .u8 0)));have T3:=Co.af.setCells w2 g9 r (List.replicate m (.int .u8 0));have Ah:=ak.setCells (List.replicate m (.int .u8 0)) r Ae (by rw[gG,A6,List.length_replicate];omega);rw[B6]at T3 Ah Ax;have F':=K6.a.lt;have A5:=cE A1 T3 (λb J e=>aW A1 Ae dc (by rw[J,e]));have Au:=T3.blk A9 om;have B7:=T3.blk A8 E8;have b3:Bw w1 W3:=(by rw[<-B6];exact aS B2.a Ab _ _);have Cd:=T3.size;have HZ:=ja (⟨A5,Au,B7,b3,Ah⟩:W3.ownsRow w1.heap.size 225 2 (.slice R U c') 1 (aZ [q])/\ak W3 (g+1) 158 [i6 0,.slice none 0 0]/\ak W3 g7 158 [i6 (size:Int),.slice R U c']/\Bw w1 W3/\ak W3 g9 5 (mS (dU q.l) r (List.replicate m (.int .u8 0))));have HQ:=ja (⟨A0,Aa,Ab,A6⟩: (q.n=p.n/\q.l=p.l)/\q.v=.slice (some ⟨g9,0,none⟩) 128 128/\w1.heap.size<=g9/\q.l.length=128);clear d0 d7 d8 z1 z2 z3 A0 Aa k9 Ab A6 b2 Ae A1 A9 A8 T3 Ah A5 Au B7 b3 Cd;(go_upto_region 13 with fail);have d7:W3.cell? (ae g7 0)=some (i6 (size:Int)):=HZ.a.2.2.1.cell 0;have d8:W3.cell? (ae g7 1)=some (.slice R U c'):=HZ.a.2.2.1.cell 1;have z1:W3.cell? (ae (g+1) 0)=some (i6 0):=HZ.a.2.1.cell 0;have z2:W3.cell? (ae (g+1) 1)=some (.slice none 0 0):=HZ.a.2.1.cell 1;have z3:=HZ.a.2.1.frozen;have z4:=HZ.a.2.1.lt;clear Ax CC B6;(go_wp2_with fail);obtain⟨A5,Au,B7,b3,Ah⟩:=HZ.a;obtain⟨⟨A0,A7⟩,Aa,Ab,A6⟩:=HQ.a;have zz:=((Au.aC 0 (i6 (size:Int))).aC 1 (.slice R U c')).alloc (.cells #[i6 (last:Int)] 3);refine bodyPost_ret (v:=.tuple #[.agg #[i6 (size:Int),.slice R U c'],.slice (some ⟨W3.heap.size,0,none⟩) 1 1,i6 0]) (ia [i6 (size:Int),.slice R U c'] _ results183 rfl zz.range underlying158 rfl mz rfl rfl) rfl ?_;have T4:=(af.setCell W3 (g+1) 0 (i6 (size:Int))).trans (af.setCell _ (g+1) 1 (.slice R U c')) (λ_ h=>.inl h);have b4:Below ((W3.setCell (ae (g+1) 0) (i6 (size:Int))).setCell (ae (g+1) 1) (.slice R U c')).heap.size ((W3.setCell (ae (g+1) 0) (i6 (size:Int))).setCell (ae (g+1) 1) (.slice R U c')) (((W3.setCell (ae (g+1) 0) (i6 (size:Int))).setCell (ae (g+1) 1) (.slice R U c')).alloc (.cells #[i6 (last:Int)] 3)):=bh.alloc lh _;have D0:=ak.new ((W3.setCell (ae (g+1) 0) (i6 (size:Int))).setCell (ae (g+1) 1) (.slice R U c')) 3 #[i6 (last:Int)];have A3:=B0.a;have hle:w.heap.size<=w1.heap.size:=A3.size;have o:∀p:Nat,p=g+1->w.heap.size<=p:=λp hp=>(by omega);have AI:=K6.a.lt;have I:=aD (cE A5 T4 (λb J=>by have:=(A5.lt b J).1;omega)) b4;have D3:=(T4.blk Ah om).ext b4;have EK:size%128=r:=(by omega);have Av:last=size/128:=(by omega);rw[show m=128-r by omega,Dt _ _ A6 om]at D3;have A4:Own w1.heap.size (((W3.setCell (ae (g+1) 0) (i6 (size:Int))).setCell (ae (g+1) 1) (.slice R U c')).alloc (.cells #[i6 (last:Int)] 3)) [⟨q.n,q.v,sW q.l r⟩]:=λq' AR=>(by rw[List.mem_singleton.1 AR];exact⟨g9,Aa,D3,Ab,EN _ _ A6 om⟩);refine⟨_,[⟨q.n,q.v,sW q.l r⟩],_,rfl,?_,A4.base hle,A4.JF I,?_,(((A3.trans (b3.mono hle)).setCell (p:=ae (g+1) 0) (o _ rfl) _).setCell (p:=ae (g+1) 1) (o _ rfl) _).alloc ?_ _,λb J=>⟨Nat.le_trans hle (I.lt b J).1,(I.lt b J).2⟩,λb J=>?_⟩
   ·rw[EK,A0,A7];rfl
   ·have B8:=ak.fe D0 0 1 1 1 sj lh (by rw[aq];omega);unfold Is;rw[World.size_setCell,World.size_setCell]at B8;simp only[List.map_cons,List.map_nil,List.length_cons,List.length_nil]at B8|-;rw[B1,<-Av,World.size_alloc,World.size_setCell,World.size_setCell];exact B8
   ·rw[World.size_setCell,World.size_setCell];have:=b3.size;omega
   ·have e:W3.heap.size=b:=Option.some.inj J;have:=b3.size;rw[World.size_alloc,World.size_setCell,World.size_setCell];omega
end
end Sq
namespace Sq
open Go.RowKit
section
variable {w:World}
def prt (d:List UInt8) (k:Nat):List UInt8:=d.take (128*k)++List.replicate (d.length-128*k) 0
theorem rV (d:List UInt8) (k:Nat): (prt d k).length=d.length:=by unfold prt;simp;omega
theorem IS (d:List UInt8) (k:Nat) (h:d.length<=128*k):prt d k=d:=by unfold prt;rw[List.take_of_length_le h,show d.length-128*k=0 by omega];simp
theorem Ej (d:List UInt8):prt d 0=List.replicate d.length 0:=by unfold prt;simp
theorem xm (d:List UInt8) (k j:Nat): (prt d k).getD j 0=if j<128*k then d.getD j 0 else 0:=by
 unfold prt;rw[List.getD_eq_getElem?_getD,List.getElem?_append,List.length_take];split
 ·rw[List.getElem?_take,if_pos om,if_pos om,<-List.getD_eq_getElem?_getD]
 ·rw[List.getElem?_replicate];by_cases h:j<128*k
  ·rw[if_pos h,List.getD_eq_getElem?_getD,List.getElem?_eq_none om];split<;>rfl
  ·rw[if_neg h];split<;>rfl
theorem Gi (d:List UInt8) (k:Nat) (h:128*k<d.length): (dU (prt d k)).take (k*128)++(dU (Sp.blk d k)).take (min 128 (d.length-k*128))++(dU (prt d k)).drop (k*128+min 128 (d.length-k*128))=dU (prt d (k+1)):=by
 unfold dU;rw[<-List.map_take,<-List.map_take,<-List.map_drop,<-List.map_append,<-List.map_append];congr 1;have J:=rV d k;have R:=Sp.aM d k;refine Sp.jM (by rw[List.length_append,List.length_append,List.length_take,List.length_take,List.length_drop,J,R,rV];omega) λj hj=>?_;rw[List.length_append,List.length_append,List.length_take,List.length_take,List.length_drop,J,R]at hj;have o: ((prt d k).take (k*128)).length=k*128:=by rw[List.length_take,J];omega
 have h2: ((Sp.blk d k).take (min 128 (d.length-k*128))).length=min 128 (d.length-k*128):=by rw[List.length_take,R];omega
 rw[xm];rcases Nat.lt_or_ge j (k*128)with I|I
 ·rw[List.append_assoc,List.getD_eq_getElem?_getD,List.getElem?_append_left om,List.getElem?_take,if_pos I,<-List.getD_eq_getElem?_getD,xm,if_pos om,if_pos om]
 ·rcases Nat.lt_or_ge j (k*128+min 128 (d.length-k*128))with U|U
  ·rw[List.append_assoc,List.getD_eq_getElem?_getD,List.getElem?_append_right om,o,List.getElem?_append_left om,List.getElem?_take,if_pos om,<-List.getD_eq_getElem?_getD,Sp.iT _ _ _ om,if_pos om];congr 1;omega
  ·rw[List.getD_eq_getElem?_getD,List.getElem?_append_right (by rw[List.length_append];omega),List.length_append,o,h2,List.getElem?_drop,<-List.getD_eq_getElem?_getD,xm];rw[if_neg om];split
   ·rw[List.getD_eq_getElem?_getD,List.getElem?_eq_none om];rfl
   ·rfl
theorem Hm:∃i:TypeInfo,prog.info? 5=some i/\i.zero=some (.int .u8 0)/\i.size=1/\i.bytes=1:=by have h: (prog.info? 5).map (λi=>(i.zero,i.size,i.bytes))=some (some (.int .u8 0),1,1):=kj;obtain⟨i,J,I⟩:=Option.map_eq_some_iff.1 h;simp only[Prod.mk.injEq]at I;exact⟨i,J,I.1,I.2.1,I.2.2⟩
theorem rE (n:Nat) (h:n<=1000000) (W:World): (Instr.makeSlice 23 (i6 (n:Int)) (i6 (n:Int))).run prog W=.ok (.slice (some ⟨W.heap.size,0,none⟩) n n) (W.alloc (.cells (Array.replicate n (.int .u8 0)) 5)):=by
 obtain⟨i,J,R,I,U⟩:=Hm;have e:=run_makeSlice (P:=prog) (w:=W) 23 5 i (.int .u8 0) underlying23 J R .i64 .i64 (n:Int) (n:Int) om (Int.le_refl _) (by rw[I];omega) (by rw[U];omega) om;rw[e,I,Nat.mul_one,Int.toNat_natCast];have hm:madeCells (Value.int .u8 0).cells n=Array.replicate n (.int .u8 0):=by apply Array.ext';rw[show(Value.int .u8 0).cells=#[Value.int .u8 0]from rfl,toList_madeCells_one,Array.toList_replicate]
 rw[hm]
def Mn (w:World) (d:List UInt8) (e:Ending) (w':World):Prop:=∃u,e=.returned (.tuple #[u,i6 0])/\w'.ownsRow w.heap.size 5 1 u d.length (dU d)/\Bw w w'
theorem fj.below {w w':World} {B:Nat} {v:Value} {ps:List Pc} (h:fj w B v ps) (hb:Below B w w'):fj w' B v ps:=⟨h.1.below hb,λp hp=>⟨(h.2 p hp).1.below hb,(h.2 p hp).2⟩⟩
theorem p6 (ps:List Pc) (d:List UInt8) (m:Nat) (h:ps.map nl=p8 d m) (k:Nat) (hk:k<ps.length):ps[k].n=k/\ps[k].l=Sp.blk d k:=by
 have e: (ps.map nl)[k]? =(p8 d m)[k]? :=by rw[h]
 rw[List.getElem?_map,List.getElem?_eq_getElem hk]at e;have hm:k<m:=by have:=congrArg List.length h;simp[p8]at this;omega
 unfold p8 at e;rw[List.getElem?_map,List.getElem?_range hm]at e;simp only[Option.map_some,nl,Option.some.injEq,Prod.mk.injEq]at e;exact e
theorem DI (n:Nat):dU (List.replicate n 0)=List.replicate n (.int .u8 0):=by unfold dU;rw[List.map_replicate];rfl
theorem Oj {p:Prop} (h:p:=by
 have hbig:=hv.Ol;have hlen:ps.length=Sp.nb d.length:=by have:=congrArg List.length hps;simpa [p8]using this
 have hnb:Sp.nb d.length<=100000:=by unfold Sp.nb;omega
 obtain⟨A,c,rfl,hc,hm,hcell⟩:=h.open_;have H:=ja h;have HV:=ja hv;have HPS:=ja hps;have HLEN:=ja hlen;clear h hv hcell hps hlen;go_enter func90,ntmps90;go_upto_region 1 with fail
 generalize hW:w.alloc (.cells _ 158)=w0;have k3:ak w0 w.heap.size 158 [i6 (d.length:Int),.slice A ps.length c]:=by rw[<-hW];exact ak.new w _ _
 have b0:Bw w w0:=by rw[<-hW];exact bh.alloc lh _
 clear hW;obtain⟨g,hg⟩:=ex w.heap.size;rw[hg]at k3|-;have HG:=ja hg;clear hg;have c3a:w0.cell? (ae g 0)=some (i6 (d.length:Int)):=k3.cell 0;have c3b:w0.cell? (ae g 1)=some (.slice A ps.length c):=k3.cell 1;go_wp2_with fail
 refine(cP _ d.length ps w0 (H.a.up b0) HV.a (oa HLEN.a)).mono ?_;rintro e w1 ⟨rfl,b1⟩;replace k3:=k3.ext b1;have H1:=ja ((H.a.up b0).up b1);replace b0:=b0.trans (b1.mono b0.size);have lt3:=k3.lt;have d0:w1.cell? (ae g 0)=some (i6 (d.length:Int)):=k3.cell 0;have d1:w1.cell? (ae g 1)=some (.slice A ps.length c):=k3.cell 1;have B0:=ja b0;have K3:=ja k3;clear b1 k3 b0 c3a c3b;by_cases hd0:d.length=0
 ·have c9: (d.length:Int)<=0:=(by omega);(go_wp2_with fail);go_ret2;exact⟨_,rfl,by rw[List.eq_nil_of_length_eq_zero hd0];exact World.ownsRow_nil _ _ _ _,B0.a⟩
 ·have c9:¬(d.length:Int)<=0:=(by omega);have hmk:=λW=>rE d.length om W;(go_upto_region 6 with fail);obtain⟨gb,hgb⟩:=ex w1.heap.size;obtain⟨W,hW⟩:=ex (w1.alloc (.cells (Array.replicate d.length (.int .u8 0)) 5));have kb:ak W gb 5 (dU (prt d 0)):=(by have:=ak.new w1 5 (Array.replicate d.length (.int .u8 0));rw[hW,hgb,Array.toList_replicate]at this;rw[Ej,DI];exact this);have bW:Bw w1 W:=(by rw[<-hW];exact bh.alloc lh _);have hWs:W.heap.size=gb+1:=(by rw[<-hW,World.size_alloc,hgb]);rw[hW,hgb];have k3:=K3.a.ext bW;have d0:W.cell? (ae g 0)=some (i6 (d.length:Int)):=k3.cell 0;have d1:W.cell? (ae g 1)=some (.slice A ps.length c):=k3.cell 1;have lt3W:=k3.lt;have hggb:g<gb:=(by omega);have H2:=ja (H1.a.up bW);have H1b:=ja (H1.a.ext lh bW);have HGB:=ja (hgb:w1.heap.size=gb);have K3W:=ja k3;have KB:=ja kb;have B1:=ja (B0.a.trans (bW.mono B0.a.size));have hsl:∀W,(Instr.slice 156 (.slice A ps.length c) (some (i6 0)) none none).run prog W=.ok (.slice A ps.length c) W:=λW=>by
   have e:=rp A ps.length c 0 (Nat.zero_le _) 0 rfl W;rw[e];congr 2;split
   ·rfl
   ·cases A<;>simp[Addr.add]
  clear kb bW k3 hmk hgb hW lt3;have hG0:Bw W W.drew:=bh.drew;refine wp_region_list 9 [(ez (pt g 1)),(ez (.slice A ps.length c)),(ez (.agg #[i6 (d.length:Int),.slice A ps.length c])),(ez (i6 0)),(ez (i6 0)),(ez (i6 0)),(ez (.slice A ps.length c)),(ez (i6 (ps.length:Int))),(ez (i6 0))]
   (λq=>Bw W q) kj rfl kj ?_ ?_ ?_ ?_
  ·exact hG0
  ·exact sv
  ·refine⟨rz [] [3],rx [0,34] [] λx hG=>cl hG lt3W d1,rx [] [3] λx hG=>And.intro (cl hG lt3W d0) (cl hG lt3W d1),rz [] [1],rz [3,37] [],?_,rx [1,35,5,39] [] λx hG=>hsl x,rz [6,40] [],rz [] [],trivial⟩
   ·intro a x hG hd hs K hK;have h36:_=_:=hd 2 36 kj;have h38:_=_:=hd 4 38 kj;clear hd hs;refine pj ?_;go_simp;refine(cN _ ps _ 0 _ rfl _ (H2.a.up hG) HV.a.inc (oa HLEN.a)).mono ?_;rintro e w' ⟨rfl,hb⟩;rw[show nw ps 0=0 by cases ps<;>simp[nw]];exact hK _ _ rfl (hG.trans (hb.mono hG.size)) hb
  ·intro x hG;(iterate 9 rintro _ rfl);simp only[ap];(try simp only[Exit.then]);have KB2:=ja (KB.a.ext hG);have B2:=ja (B1.a.trans (hG.mono B1.a.size));have H3:=ja (H1b.a.ext (oa HGB.a) hG);have hx:=Nat.le_trans (Nat.le_of_eq hWs.symm) hG.size;have HX:=ja (show gb+1<=x.heap.size from hx);clear hG hG0 d0 d1 hx hsl;generalize x=w2 at*;go_wp2;(go_loopw [10,11,42] (λ_ _ u42 wr=>∃(k:Nat),k<=ps.length/\u42=i6 k/\ak wr gb 5 (dU (prt d k))/\Below gb w2 wr) (λ_ _ i _=>ps.length-(intOf i).toNat));case atStart=>exact⟨0,Nat.zero_le _,rfl,KB2.a,Below.refl _ _⟩
   case round=>
    obtain⟨k,hk,rfl,hkb,hbr⟩:=hrel;by_cases hlt:k<ps.length
    ·have hlt2:=hlt;rw[HLEN.a]at hlt2;have hkd:128*k<d.length:=(by unfold Sp.nb at hlt2;omega);have hP:=H3.a.below (by rw[HGB.a];exact hbr);obtain⟨_,_,hse,_,_,hcell⟩:=hP.open_;cases hse;obtain⟨b,off,rfl,hbB,x0,x1⟩:=hcell k hlt;rw[show off+(k*2+1)=off+k*2+1 by omega]at x1;have hmem:=List.getElem_mem hlt;obtain⟨hB,hBl⟩:=hP.2 _ hmem;obtain⟨hpn,hpl⟩:=p6 ps d _ HPS.a k hlt;generalize ps[k]=p at*;obtain⟨pn,pv,pl⟩:=p;simp only at hB hBl x0 x1 hpn hpl;subst hpn hpl;obtain⟨A',c',rfl,hc',hm',_⟩:=hB.open_;rw[hBl]at x1 hc' hB;have HB:=ja hB;have HBL:=ja hBl;have HKB:=ja hkb;have HBR:=ja hbr;have c11:¬(d.length:Int)<=(pn:Int)*128:=(by omega);have hpi: (pn:Int)<(ps.length:Int):=(by omega);have hk0: (0:Int)<=(pn:Int)*128:=(by omega);have hk1: (pn:Int)*128<=463488:=(by omega);have hrge:gb<wr.heap.size:=hkb.lt;clear hkb hbr hB hBl hmem hP hlt2;(go_upto_region 11 with fail);obtain⟨W5,hW5⟩:=ex (wr.alloc (.cells #[i6 (pn:Int),.slice A' 128 c'] 225));have k16:ak W5 wr.heap.size 225 [i6 (pn:Int),.slice A' 128 c']:=(by rw[<-hW5];exact ak.new wr _ _);have b6:Bw wr W5:=(by rw[<-hW5];exact bh.alloc lh _);rw[hW5];obtain⟨g16,hg16⟩:=ex wr.heap.size;rw[hg16]at k16|-;have HG16:=ja hg16;have KB5:=ja (HKB.a.ext b6);have BR5:=ja (HBR.a.trans (b6.mono om));have HB5:=ja (HB.a.below (b6.mono (oa HGB.a)));have lt16:=k16.lt;have x16:W5.cell? (ae g16 1)=some (.slice A' 128 c'):=k16.cell 1;have hslb:∀W,(Instr.slice 23 (.slice (some ⟨gb,0,none⟩) d.length d.length) (some (i6 ((pn:Int)*128))) none none).run prog W=.ok (.slice (some ⟨gb,pn*128,none⟩) (d.length-pn*128) (d.length-pn*128)) W:=λW=>by
      have e:=ig (some ⟨gb,0,none⟩) d.length d.length (pn*128) om ((pn:Int)*128) om W;rw[if_neg om]at e;rw[e];by_cases h0:pn=0
      ·simp[Addr.add,h0]
      ·simp[Addr.add,h0];omega
     have hslc:∀W,(Instr.slice 23 (.slice A' 128 c') (some (i6 0)) none none).run prog W=.ok (.slice A' 128 c') W:=λW=>by
      have e:=ig A' 128 c' 0 (Nat.zero_le _) 0 rfl W;rw[e];congr 2;split
      ·rfl
      ·cases A'<;>simp[Addr.add]
     clear hW5 hg16 b6 k16 x0 x1;have hG0:Bw W5 W5.drew:=bh.drew;refine aQ 14 13 [(ez (.slice (some ⟨gb,0,none⟩) d.length d.length)),(ez (i6 ((pn:Int)*128))),(ez (i6 0)),(ez (i6 ((pn:Int)*128))),(ez (i6 ((pn:Int)*128))),(ez (.slice (some ⟨gb,pn*128,none⟩) (d.length-pn*128) (d.length-pn*128))),(ez (pt g16 1)),(ez (.slice A' 128 c')),(ez (i6 0)),(ez (i6 ((pn:Int)*128))),(ez (i6 (-((pn:Int)*128)))),(ez (i6 0)),(ez (.slice A' 128 c'))]
      (λq=>Bw W5 q) kj rfl dc kj kj ?_ ?_ ?_ ?_
     ·exact hG0
     ·exact sv
     ·refine⟨rz [] [8],rz [] [11],rz [] [1],rx [1,56,2,57] [] λx hG=>(IntWalk.i64_in _ om:IntKind.i64.wrap ((pn:Int)*128)=(pn:Int)*128),rz [3,58] [],rx [0,55,4,59] [] λx hG=>hslb x,rz [] [10],rx [6,61] [] λx hG=>cl hG lt16 x16,rz [] [1],rz [] [11],rx [8,63,9,64] [] λx hG=>(IntWalk.i64_in _ om:IntKind.i64.wrap (-((pn:Int)*128))=-((pn:Int)*128)),rx [10,65] [] λx hG=>(by split<;>omega: (if 0<(pn:Int)*128 then(0:Int)else-((pn:Int)*128))=0),rx [7,62,11,66] [] λx hG=>hslc x,trivial⟩
     ·intro x hG;(iterate 13 rintro _ rfl);simp only[ap];rw[show List.range' 13 (14-13)=[13]from rfl,wpOps_cons];have KD:=KB5.a.ext hG;have hsrc:=HB5.a.below (hG.mono (oi KB5.a.lt HGB.a));have hbl:=Sp.aM d pn;have hsrc':bw x w1.heap.size 1 (.slice A' 128 c') 128 (dU (Sp.blk d pn)):=(by have e:=hsrc;unfold Bs at e;rw[hbl]at e;exact e);obtain⟨w6,hcp,k6,hbel,ht6,hs6⟩:=jC (P:=prog) KD (o:=pn*128) (n:=d.length-pn*128) (c':=d.length-pn*128) 23 3 5 underlying23 kj hsrc' (gj _) (by rw[gG,rV];omega);rw[Gi d pn hkd]at k6;have B6:=ja (hbel gb w2 lh (BR5.a.trans (hG.mono (oa KB5.a.lt))));have K6:=ja k6;refine pj ?_;go_simp;unfold wpOps;(try simp only[Exit.then]);clear hbel ht6 hs6 hcp hsrc hsrc' KD hG hG0 hslb hslc k6 x16;go_wp2;go_roundw;case rel=>exact⟨pn+1,by omega,by go_num,K6.a,B6.a⟩
      case measure=>exact ms
    ·obtain rfl:k=ps.length:=(by omega);have HKB:=ja hkb;have HBR:=ja hbr;clear hkb hbr;(go_wp2_with fail);go_ret2;have hgbw:w.heap.size<=gb:=(by have:=B0.a.size;have:=HGB.a;omega);refine⟨_,rfl,?_,B2.a.trans (HBR.a.mono hgbw)⟩;have hk9:=HKB.a;rw[IS d _ (by have:=HLEN.a;unfold Sp.nb at this;omega)]at hk9;have ho:=ak.own hk9 (base:=w.heap.size) hgbw d.length d.length 1 (by rw[gG];omega) lh (by rw[aq];omega);rw[Nat.mul_one,List.take_of_length_le (by rw[gG];exact Nat.le_refl _)]at ho;exact ho):p:=h
theorem sH (v:Value) (ps:List Pc) (d:List UInt8) (n:Nat) (w:World) (h:fj w w.heap.size v ps) (hv:Vd d.length ps) (hps:ps.map nl=p8 d (Sp.nb d.length)) (hn:d.length<n) (hn2:n<=1000000):
 Calls prog 90 #[.agg #[i6 (d.length:Int),v],i6 0,i6 (n:Int)] w (Mn w d):=by
 have I:¬(n:Int)<0:=by omega
 exact Oj
theorem sK (v:Value) (ps:List Pc) (d:List UInt8) (w:World) (h:fj w w.heap.size v ps) (hv:Vd d.length ps) (hps:ps.map nl=p8 d (Sp.nb d.length)):
 Calls prog 90 #[.agg #[i6 (d.length:Int),v],i6 0,i6 (d.length:Int)] w (Mn w d):=by
 have I:¬(d.length:Int)<0:=by omega
 exact Oj
theorem kU (v:Value) (ps:List Pc) (d:List UInt8) (n:Nat) (w:World) (h:fj w w.heap.size v ps) (hv:Vd d.length ps) (hps:ps.map nl=p8 d (Sp.nb d.length)) (hn:d.length<=n) (hn2:n<=1000000):
 Calls prog 90 #[.agg #[i6 (d.length:Int),v],i6 0,i6 (n:Int)] w (Mn w d):=by
 rcases Nat.lt_or_eq_of_le hn with I|I
 ·exact sH v ps d n w h hv hps I hn2
 ·subst I;exact sK v ps d w h hv hps
end
end Sq
namespace Co
open Go.RowKit
open Sq (Pc fj aZ iU nl pL)
section
variable {w:World} {c:C} {fs:List Fi}
theorem Jn (w:World): (zeroValue 23).run prog w=.ok (.slice none 0 0) w:=by kernel_rfl
theorem Jy (w:World): (zeroValue 38).run prog w=.ok (.agg #[i6 0,.int .u32 0]) w:=by kernel_rfl
def N2 (w:World) (l:List UInt8) (e:Ending) (w':World):Prop:=∃u,e=.returned (.tuple #[u,.bool true,i6 0])/\w'.ownsRow w.heap.size 5 1 u 128 (dU l)/\Below w.heap.size w w'
theorem yf (h:bD w c fs) (i:Nat) (f:Fi) (hf:fs[i]? =some f) (n:Nat) (hn:n<f.vs.length) (hn2:n<=100000):
 Calls prog 124 #[pt c.g 0,pt f.g 0,i6 (n:Int)] w (N2 w (Sp.blk f.d n)):=by
 have hF:=h.fi i f hf;have c1:w.cell? (ae f.g 26)=some (.map (some f.fresh)):=hF.blk.cell 26;have A0:=cC (n:Int) om om;have l1:=hF.fresh.gw az underlying152 (Jn w) (n:Int) A0;rw[AP,List.getElem?_eq_getElem hn]at l1;simp only[Option.getD_some,Option.isSome_some]at l1;have hO:=(hF.jW n f.vs[n] (List.getElem?_eq_getElem hn)).1;generalize f.vs[n]=v at*;obtain⟨A,c',rfl,A1,A2,_⟩:=hO.open_;have hl:=Sp.aM f.d n;rw[hl]at l1 A1 hO;have HO:=ja hO;have HL:=ja hl;clear h hf hF hO hl;go_enter func124,ntmps124;go_wp2_with(at_builtin;refine bT ?_)
 have hB:=HO.a;have R:w.ownsRow w.heap.size 5 1 (.slice none 0 0) 0 []:=World.ownsRow_nil _ _ _ _;have o:bw w w.heap.size 1 (.slice A 128 c') 128 (dU (Sp.blk f.d n)):=by have e:=hB;unfold Bs at e;rw[HL.a]at e;exact e
 obtain⟨v9,w9,J,I,U,_⟩:=aE (P:=prog) (ty:=23) underlying23 oC rfl dc R o (gj _) (by rw[aq];omega) om lh;rw[List.nil_append,Nat.zero_add]at I;have A':Below w.heap.size w w9:=bh.grown U lh (λj e=>by cases e);refine aN rfl _ _ _ rfl rfl rfl J ?_;have HW:=ja (⟨I,A'⟩:w9.ownsRow w.heap.size 5 1 v9 128 (dU (Sp.blk f.d n))/\Below w.heap.size w w9);clear I A' J U hB R o;go_wp2;go_ret3;exact⟨v9,rfl,HW.a.1,HW.a.2⟩
theorem CT (h:bD w c fs) (i:Nat) (f:Fi) (hf:fs[i]? =some f) (n:Nat) (hn:f.vs.length<=n) (hn2:n<=100000):
 Calls prog 124 #[pt c.g 0,pt f.g 0,i6 (n:Int)] w λe w'=>e=.returned (.tuple #[.slice none 0 0,.bool false,i6 0])/\Below w.heap.size w w':=by
 have I:=h.fi i f hf;have c1:w.cell? (ae f.g 26)=some (.map (some f.fresh)):=I.blk.cell 26;have c2:w.cell? (ae f.g 25)=some (.map (some f.cA)):=I.blk.cell 25;have J:=cC (n:Int) om om;have l1:=I.fresh.gw az underlying152 (Jn w) (n:Int) J;have l2:=I.cA.gw az underlying151 (Jy w) (n:Int) J;rw[AP,List.getElem?_eq_none hn]at l1;rw[dq]at l2;simp only[Option.getD_none,Option.isSome_none]at l1 l2;clear h hf I;go_enter func124,ntmps124;go_wp2;go_ret3;exact⟨rfl,bh.alloc lh _⟩
def Hg (B:Nat) (w:World) (qs:List Pc):Prop:=∀q∈qs,w.ownsRow B 5 1 q.v 128 (dU q.l)/\q.l.length=128
theorem Hg.ext {B:Nat} {w w':World} {qs:List Pc} (h:Hg B w qs) (hb:Below w.heap.size w w'):Hg B w' qs:=λq I=>⟨aD (h q I).1 hb,(h q I).2⟩
theorem Hg.JF {B:Nat} {w:World} {qs:List Pc} {v:Value} (h:Hg B w qs) (ho:w.ownsRow B 225 2 v qs.length (aZ qs)):fj w w.heap.size v qs:=by refine⟨bw.aG ho,λp hp=>?_⟩;obtain⟨J,I⟩:=h p hp;refine⟨?_,I⟩;have:=bw.aG J;unfold Bs;rw[I];exact this
def il (f:Fi) (l:List Nat):List (Nat×List UInt8):=(l.filter λn=>decide (n<f.vs.length)).map λn=>(n,Sp.blk f.d n)
theorem wL (f:Fi) (a b:List Nat):il f (a++b)=il f a++il f b:=by unfold il;rw[List.filter_append,List.map_append]
def GX (w:World) (f:Fi) (l:List Nat) (e:Ending) (w':World):Prop:=∃u ps,e=.returned (.tuple #[.agg #[i6 (f.d.length:Int),u],i6 0])/\fj w' w'.heap.size u ps/\ps.map nl=il f l/\Below w.heap.size w w'
theorem ep (h:bD w c fs) (i:Nat) (f:Fi) (hf:fs[i]? =some f) (vl:Value) (l:List Nat) (hl:Is .i64 w w.heap.size vl (l.map Int.ofNat)) (hl2:∀n∈l,n<=100000) (hl3:l.length<=100000):
 Calls prog 71 #[pt c.g 0,pt f.g 0,vl] w (GX w f l):=by
 have hF:=h.fi i f hf;have hI:=hl;obtain⟨A,cc,rfl,hc,hm,hlen,R⟩:=hl;simp only[List.length_map]at hc hlen R hI|-;have H:=ja h;have HF:=ja hf;have HI:=ja hI;have B8:=ja hl2;have c5:w.cell? (ae f.g 5)=some (i6 (f.d.length:Int)):=hF.blk.cell 5;have Av:=hF.blk.lt;clear h hf hF hI hlen R hl2;go_enter func71,ntmps71;go_upto_region 2 with fail
 obtain⟨W0,hW⟩:=ex ((w.alloc (.cells #[i6 0,.slice none 0 0] 158)).alloc (.cells #[i6 (f.d.length:Int),.slice none 0 0] 158));have k6:ak W0 w.heap.size 158 [i6 0,.slice none 0 0]:=by rw[<-hW];exact(ak.new w _ _).alloc _
 have k8:ak W0 (w.heap.size+1) 158 [i6 (f.d.length:Int),.slice none 0 0]:=by rw[<-hW];have:=ak.new (w.alloc (.cells #[i6 0,.slice none 0 0] 158)) 158 #[i6 (f.d.length:Int),.slice none 0 0];rw[World.size_alloc]at this;exact this
 have b0:Below w.heap.size w W0:=by rw[<-hW];exact(bh.alloc lh _).alloc sj _
 rw[hW];clear hW;obtain⟨g,hg⟩:=ex w.heap.size;rw[hg]at k6 k8 b0|-;have HG:=ja hg;have B0:=ja b0;have K6:=ja k6;clear hg c5 Av b0 k6;go_wp2;go_loopw [22] (λu22 wr=>∃(k:Nat) (qs:List Pc) (u:Value),k<=l.length/\u22=i6 k/\ak wr (g+1) 158 [i6 (f.d.length:Int),u]/\wr.ownsRow (g+2) 225 2 u qs.length (aZ qs)/\Hg (g+2) wr qs/\qs.map nl=il f (l.take k)/\qs.length<=k/\Below (g+1) W0 wr) (λu22 _=>l.length-(intOf u22).toNat)
 case atStart=>exact⟨0,[],.slice none 0 0,Nat.zero_le _,rfl,k8,World.ownsRow_nil _ _ _ _,(λ_ hq=>(by cases hq)),rfl,Nat.le_refl _,Below.refl _ _⟩
 case round=>
  obtain⟨k,qs,u,hk,rfl,o,I,J,A2,Aw,A'⟩:=hrel;obtain⟨A1,n1,c1,rfl⟩:∃A n c,u=.slice A n c:=by
   rcases I.2 with⟨h1,_⟩|⟨g',Ae,cur,h1,_⟩
   ·exact⟨_,_,_,h1⟩
   ·exact⟨_,_,_,h1⟩
  by_cases Aq:k<l.length
  ·have Ad:Below g w wr:=B0.a.trans (A'.mono (Nat.le_succ g));have Ar:Is .i64 wr w.heap.size (.slice A l.length cc) (l.map Int.ofNat):=HI.a.below (by rw[HG.a];exact Ad);unfold Is at Ar;rw[List.length_map]at Ar;obtain⟨_,_,B9,_,_,_,R⟩:=Ar;cases B9;obtain⟨b,off,rfl,Bg,hx⟩:=R om;have x0:=hx k (i6 (l[k]:Nat)) (by simp[Aq]);clear hx R;have Ax:=ja (List.take_succ_eq_append_getElem Aq);have B':=B8.a l[k] (List.getElem_mem Aq);generalize l[k]=n at*;have HC:=H.a.below (by unfold Bw;rw[HG.a];exact Ad);have A6:=ja o;have Ah:=ja I;have Ao:=ja J;have A8:=ja (⟨A2,Aw⟩:qs.map nl=il f (l.take k)/\qs.length<=k);have B1:=ja A';have Bt:=ja Ad;clear o I J A2 Aw A' Ad;(go_wp2_with fail);by_cases hn:n<f.vs.length
   ·refine(yf HC i f HF.a n hn B').mono ?_;rintro e w3 ⟨uo,rfl,AI,b3⟩;obtain⟨A9,n9,c9,rfl⟩:∃A n c,uo=.slice A n c:=by
     rcases AI.2 with⟨h1,_⟩|⟨g',Ae,cur,h1,_⟩
     ·exact⟨_,_,_,h1⟩
     ·exact⟨_,_,_,h1⟩
    have AR:=A6.a.ext b3;have d8:w3.cell? (ae (g+1) 1)=some (.slice A1 n1 c1):=AR.cell 1;have U:=ja (aD Ah.a b3);have Aa:=ja (Ao.a.ext b3);have BB:=ja (Sq.jF AI (show g+2<=wr.heap.size by have:=A6.a.lt;omega));have A4:=ja AR;have B2:=ja (B1.a.trans (b3.mono (Nat.le_of_lt A6.a.lt)));have BO:=A8.a.2;have B3:g+2<=w3.heap.size:=(by have:=A4.a.lt;omega);clear AI b3 AR HC;(go_wp2_with(at_builtin;refine bT ?_));refine aH rfl _ _ rfl rfl rfl sj underlying156 pL rfl dc U.a rfl (by simp[Value.oneCell']) (by rw[aq];omega) om B3 ?_;intro v7 w7 A3 A0;obtain⟨A7,n7,c7,rfl⟩:∃A n c,v7=.slice A n c:=by
     rcases A3.2 with⟨h1,_⟩|⟨g',Ae,cur,h1,_⟩
     ·exact⟨_,_,_,h1⟩
     ·exact⟨_,_,_,h1⟩
    have A5:=A4.a.grown A0 (aW U.a A4.a dc);have z1:w7.cell? (ae (g+1) 1)=some (.slice A1 n1 c1):=A5.cell 1;have z2:=A5.frozen;have BQ:=ja A5;have B4:=ja (gV BB.a U.a dc A0);have Ab:Hg (g+2) w7 qs:=λq hq=>And.intro (gV (Aa.a q hq).1 U.a dc A0) (Aa.a q hq).2;have As:=ja Ab;have B5:=ja A3;have B6:=ja (B2.a.grown A0 (Nat.le_of_lt A4.a.lt) (λj e=>by have:=(U.a.lt j e).1;omega));clear A5 Ab A3 A0 BO B3 d8;go_wp2;go_roundw;case rel=>
     have T:=af.setCell w7 (g+1) 1 (.slice A7 n7 c7);have B7: (w7.setCell (ae (g+1) 1) (.slice A7 n7 c7)).ownsRow (g+2) 225 2 (.slice A7 n7 c7) (qs++[Pc.mk n (.slice A9 n9 c9) (Sp.blk f.d n)]).length (aZ (qs++[Pc.mk n (.slice A9 n9 c9) (Sp.blk f.d n)])):=(by rw[List.length_append,iU];exact Sq.cE B5.a T (λb hb=>by have:=(B5.a.lt b hb).1;omega));refine⟨k+1,qs++[⟨n,.slice A9 n9 c9,Sp.blk f.d n⟩],.slice A7 n7 c7,by omega,by go_num,BQ.a.aC 1 _,B7,?_,?_,by rw[List.length_append];have:=A8.a.2;simp;omega,B6.a.setCell (p:=ae (g+1) 1) lh _⟩
     ·intro q hq;rcases List.mem_append.1 hq with hq|hq
      ·exact⟨Sq.cE (As.a q hq).1 T (λb hb=>by have:=((As.a q hq).1.lt b hb).1;omega),(As.a q hq).2⟩
      ·rw[List.mem_singleton.1 hq];exact⟨Sq.cE B4.a T (λb hb=>by have:=(B4.a.lt b hb).1;omega),Sp.aM _ _⟩
     ·rw[Ax.a,wL,List.map_append,A8.a.1];unfold il;rw[List.filter_cons_of_pos (by simp;omega)];rfl
    case measure=>exact ms
   ·refine(CT HC i f HF.a n om B').mono ?_;rintro e w3 ⟨rfl,b3⟩;clear HC;go_wp2;go_roundw;case rel=>refine⟨k+1,qs,_,by omega,by go_num,A6.a.ext b3,aD Ah.a b3,Ao.a.ext b3,?_,by have:=A8.a.2;omega,B1.a.trans (b3.mono (Nat.le_of_lt A6.a.lt))⟩;rw[Ax.a,wL,A8.a.1];unfold il;rw[List.filter_cons_of_neg (by simp;omega)];simp
    case measure=>exact ms
  ·obtain rfl:k=l.length:=(by omega);rw[List.take_length]at A2;have x0:wr.cell? (ae (g+1) 0)=some (i6 (f.d.length:Int)):=o.cell 0;have x1:wr.cell? (ae (g+1) 1)=some (.slice A1 n1 c1):=o.cell 1;have k6:=K6.a.below A' (Nat.lt_succ_self g);have y0:=k6.cell 0;have y1:=k6.cell 1;have y2:=k6.frozen;have HZ:=ja (⟨I,J,A2,A',k6⟩:wr.ownsRow (g+2) 225 2 (.slice A1 n1 c1) qs.length (aZ qs)/\Hg (g+2) wr qs/\qs.map nl=il f l/\Below (g+1) W0 wr/\ak wr g 158 [i6 0,.slice none 0 0]);clear I J A2 A' k6 o;go_wp2;obtain⟨I,J,A2,A',k6⟩:=HZ.a;have T:=(af.setCell wr g 0 (i6 (f.d.length:Int))).trans (af.setCell _ g 1 (.slice A1 n1 c1)) (λ_ h=>.inl h);have kz:=(k6.aC 0 (i6 (f.d.length:Int))).aC 1 (.slice A1 n1 c1);refine bodyPost_ret (v:=.tuple #[.agg #[i6 (f.d.length:Int),.slice A1 n1 c1],i6 0]) (bG [i6 (f.d.length:Int),.slice A1 n1 c1] _ results71 rfl kz.range underlying158 rfl Sq.mz rfl) rfl ?_;have Au:Hg (g+2) ((wr.setCell (ae g 0) (i6 (f.d.length:Int))).setCell (ae g 1) (.slice A1 n1 c1)) qs:=λq hq=>⟨Sq.cE (J q hq).1 T (λb hb=>by have:=((J q hq).1.lt b hb).1;omega),(J q hq).2⟩;refine⟨_,qs,rfl,Au.JF (Sq.cE I T (λb hb=>by have:=(I.lt b hb).1;omega)),A2,?_⟩;rw[HG.a];exact((B0.a.trans (A'.mono (Nat.le_succ g))).setCell (p:=ae g 0) lh _).setCell (p:=ae g 1) lh _
end
end Co
namespace Co
open Go.RowKit
section
variable {w w':World} {own:Nat->Nat} {i:Nat} {f:Fi} {vs:List Value} {l:KV}
structure lf (w:World) (own:Nat->Nat) (i:Nat) (f:Fi) (l:KV):Prop where
 blk:ak w f.g 155 f.cells
 cA:ay w prog 3 f.cA []
 fresh:ay w prog 3 f.fresh l
 bA:ay w prog 3 f.bA []
 lost:ay w prog 3 f.lost []
 nodes:ay w prog 3 f.nodes []
 o0:own f.g=10*(i+1)
 o1:own f.cA=10*(i+1)+1
 o2:own f.fresh=10*(i+1)+2
 o3:own f.bA=10*(i+1)+3
 o4:own f.lost=10*(i+1)+4
 o5:own f.nodes=10*(i+1)+5
 cU:∀p,f.cU=some p->gX w own p
theorem kB.loose (h:kB w own i f):lf w own i f (gT f.vs):=⟨h.blk,h.cA,h.fresh,h.bA,h.lost,h.nodes,h.o0,h.o1,h.o2,h.o3,h.o4,h.o5,h.cU⟩
theorem lf.below (h:lf w own i f l) (hb:Bw w w'):lf w' own i f l:=⟨h.blk.ext hb,h.cA.ext hb,h.fresh.ext hb,h.bA.ext hb,h.lost.ext hb,h.nodes.ext hb,h.o0,h.o1,h.o2,h.o3,h.o4,h.o5,λp hp=>(h.cU p hp).bU (X:=λ_=>False) (af.aj hb) (λ_ e _=>e.elim) (λ_ _=>rfl)⟩
theorem lf.sP (h:lf w own i f l) (ht:af (· =f.fresh) w w') {l':KV} (hm:ay w' prog 3 f.fresh l'):lf w' own i f l' where
 blk:=ht.blk h.blk λe=>absurd (e▸h.o0) (by rw[h.o2];omega)
 cA:=ht.map h.cA λe=>absurd (e▸h.o1) (by rw[h.o2];omega)
 fresh:=hm
 bA:=ht.map h.bA λe=>absurd (e▸h.o3) (by rw[h.o2];omega)
 lost:=ht.map h.lost λe=>absurd (e▸h.o4) (by rw[h.o2];omega)
 nodes:=ht.map h.nodes λe=>absurd (e▸h.o5) (by rw[h.o2];omega)
 o0:=h.o0
 o1:=h.o1
 o2:=h.o2
 o3:=h.o3
 o4:=h.o4
 o5:=h.o5
 cU:=λp hp=>(h.cU p hp).bU ht (λb e _=>by rw[e,h.o2];omega) (λ_ _=>rfl)
theorem lf.Np (h:lf w own i f l) (ht:af (· =f.cA) w w') (hm:ay w' prog 3 f.cA []):lf w' own i f l where
 blk:=ht.blk h.blk λe=>absurd (e▸h.o0) (by rw[h.o1];omega)
 cA:=hm
 fresh:=ht.map h.fresh λe=>absurd (e▸h.o2) (by rw[h.o1];omega)
 bA:=ht.map h.bA λe=>absurd (e▸h.o3) (by rw[h.o1];omega)
 lost:=ht.map h.lost λe=>absurd (e▸h.o4) (by rw[h.o1];omega)
 nodes:=ht.map h.nodes λe=>absurd (e▸h.o5) (by rw[h.o1];omega)
 o0:=h.o0
 o1:=h.o1
 o2:=h.o2
 o3:=h.o3
 o4:=h.o4
 o5:=h.o5
 cU:=λp hp=>(h.cU p hp).bU ht (λb e _=>by rw[e,h.o1];omega) (λ_ _=>rfl)
theorem lf.J5 (h:lf w own i f l) (ht:af (· =f.bA) w w') (hm:ay w' prog 3 f.bA []):lf w' own i f l where
 blk:=ht.blk h.blk λe=>absurd (e▸h.o0) (by rw[h.o3];omega)
 cA:=ht.map h.cA λe=>absurd (e▸h.o1) (by rw[h.o3];omega)
 fresh:=ht.map h.fresh λe=>absurd (e▸h.o2) (by rw[h.o3];omega)
 bA:=hm
 lost:=ht.map h.lost λe=>absurd (e▸h.o4) (by rw[h.o3];omega)
 nodes:=ht.map h.nodes λe=>absurd (e▸h.o5) (by rw[h.o3];omega)
 o0:=h.o0
 o1:=h.o1
 o2:=h.o2
 o3:=h.o3
 o4:=h.o4
 o5:=h.o5
 cU:=λp hp=>(h.cU p hp).bU ht (λb e _=>by rw[e,h.o3];omega) (λ_ _=>rfl)
theorem lf.MI (h:lf w own i f l) (ht:af (· =f.lost) w w') (hm:ay w' prog 3 f.lost []):lf w' own i f l where
 blk:=ht.blk h.blk λe=>absurd (e▸h.o0) (by rw[h.o4];omega)
 cA:=ht.map h.cA λe=>absurd (e▸h.o1) (by rw[h.o4];omega)
 fresh:=ht.map h.fresh λe=>absurd (e▸h.o2) (by rw[h.o4];omega)
 bA:=ht.map h.bA λe=>absurd (e▸h.o3) (by rw[h.o4];omega)
 lost:=hm
 nodes:=ht.map h.nodes λe=>absurd (e▸h.o5) (by rw[h.o4];omega)
 o0:=h.o0
 o1:=h.o1
 o2:=h.o2
 o3:=h.o3
 o4:=h.o4
 o5:=h.o5
 cU:=λp hp=>(h.cU p hp).bU ht (λb e _=>by rw[e,h.o4];omega) (λ_ _=>rfl)
def gQ (vs:List Value) (n:Nat) (v:Value):List Value:=if n<vs.length then vs.set n v else vs++[v]
theorem bL {b:Nat} (h:w.mapTurned w' b):af (· =b) w w':=af.bt h.grown (λ_ e=>(Option.some.inj e).symm)
def dD (own:Nat->Nat) (i:Nat) (w w':World):Prop:=af (λb=>own b/10=i+1) w w'
theorem dD.trans {w'':World} (h:dD own i w w') (k:dD own i w' w''):dD own i w w'':=af.trans h k λ_ e=>.inl e
theorem dD.of {b:Nat} (h:af (· =b) w w') (hb:own b/10=i+1):dD own i w w':=h.mono λ_ e=>by rw[e];exact hb
def MU (w:World) (own:Nat->Nat) (i:Nat) (f:Fi) (l:KV) (e:Ending) (w':World):Prop:=e=.returned (.tuple #[])/\lf w' own i f l/\dD own i w w'
theorem sq (h:lf w own i f (gT vs)) (n:Nat) (hn:n<=vs.length) (hn2:vs.length<=100000) (A:Option Addr) (m c:Nat):
 Calls prog 130 #[pt f.g 0,i6 (n:Int),.slice A m c] w (MU w own i f (gT<|gQ vs n (.slice A m c))):=by
 have I:=cC (n:Int) om om;obtain⟨w1,A2,J,R⟩:=ay.store h.fresh az underlying152 (by rw[mg,aq];omega) (n:Int) I (.slice A m c);rw[Hf vs n _ hn]at J;have T1:=bL R;have h1:lf w1 own i f (gT (gQ vs n (.slice A m c))):=h.sP T1 J;obtain⟨w2,A3,U,j⟩:=ay.drop h1.cA az underlying151 (n:Int) I 0;have T2:=bL j;have h2:=h1.Np T2 U;obtain⟨w3,A4,o,A'⟩:=ay.drop h2.bA az underlying101 (n:Int) I 0;have T3:=bL A';have h3:=h2.J5 T3 o;obtain⟨w4,A5,A0,A1⟩:=ay.drop h3.lost az underlying101 (n:Int) I 0;have T4:=bL A1;have h4:=h3.MI T4 A0;have c1:w.cell? (ae f.g 26)=some (.map (some f.fresh)):=h.blk.cell 26;have c2:w1.cell? (ae f.g 25)=some (.map (some f.cA)):=h1.blk.cell 25;have c3:w2.cell? (ae f.g 27)=some (.map (some f.bA)):=h2.blk.cell 27;have c4:w3.cell? (ae f.g 28)=some (.map (some f.lost)):=h3.blk.cell 28;have F:=ja ((((dD.of T1 (by rw[h.o2];omega)).trans (dD.of T2 (by rw[h.o1];omega))).trans (dD.of T3 (by rw[h.o3];omega))).trans (dD.of T4 (by rw[h.o4];omega)):dD own i w w4);have H4:=ja h4;clear h h1 h2 h3 h4 T1 T2 T3 T4 R j A' A1 J U o A0;go_enter func130,ntmps130;go_wp2;go_end0;exact⟨rfl,H4.a,F.a⟩
theorem DJ (h:lf w own i f l) (n:Int) (h0:-1000000<=n) (h1:n<=1000000):
 Calls prog 177 #[pt f.g 0,i6 n] w λe w'=>e=.returned (.tuple #[])/\Bw w w':=by
 have I:=cC n h0 h1;cases hw:f.cU with
 |none=>have c1:w.cell? (ae f.g 31)=some (.pointer none):=(h.blk.cell 31).trans (by show some (tV f.cU)=_;rw[hw];rfl);clear h hw;go_enter func177,ntmps177;go_wp2;refine bodyPost_ret (results_none rfl _ _ _) rfl ?_;exact⟨rfl,Below.refl _ _⟩
 |some p=>have c1:w.cell? (ae f.g 31)=some (pt p.b 0):=(h.blk.cell 31).trans (by show some (tV f.cU)=_;rw[hw];rfl);have hp:=h.cU p hw;have c2:w.cell? (ae p.b 25)=some (.map (some p.data)):=hp.blk.cell 25;have l1:=hp.data.gw az underlying151 (Jy w) n I;rw[dq]at l1;simp only[Option.getD_none,Option.isSome_none]at l1;clear h hp hw;go_enter func177,ntmps177;go_wp2;go_end0;exact⟨rfl,bh.alloc lh _⟩
end
end Co
section
open Go.RowKit
section
variable {P:Program} {K E t:TypeId} {w w':World} {b r:Nat} {l rem:KV}
theorem aL.kN {row:Option Nat} (h:aL w P K b r l rem) (hg:w.grownBy w' row) (hb:some b≠row) (hr:some r≠row):w'.rangeLeft b r=w.rangeLeft b r:=by obtain⟨left,I,h,_,_⟩:=h;rw[(h.kept hg hb hr).left_eq,h.left_eq]
theorem aL.step (h:aL w P K b r l rem) (hK:P.underlying K=some (.int .i64)) (ty:TypeId):
 (rem=[]/\(Instr.next (pt r 0) false ty).run P w=.ok (.tuple #[.bool false]) w)\/
 ∃k v w',(k,v)∈rem/\(Lit.int .i64 k).wf=true/\(Instr.next (pt r 0) false ty).run P w=.ok (.tuple #[.bool true,.int .i64 k,v]) w'/\aL w' P K b r l (bf rem k)/\w.grownBy w' (some r)/\w'.heap.size=w.heap.size/\
  (Instr.entry (pt r 0)).run P w'=.ok (.tuple #[.int .i64 k,v]) w'/\w'.rangeLeft b r<w.rangeLeft b r:=by
 obtain⟨left,A9,h,rfl,U⟩:=h;have hle:=h.left_eq;rcases h.next (Maps.int_keyed hK) ty with⟨_,hl,I⟩|⟨key,v,kl,y,w',j,o,A2,hv,A',I,A0,A3,A4,A5,A6⟩
 ·refine .inl ⟨?_,I⟩;rw[List.filter_eq_nil_iff];intro x _;rw[hl];decide
 ·obtain⟨k,rfl,rfl,A7⟩:=Maps.keyOf_int_inv hK o;unfold vR at hv;injection hv with hv;subst hv;have A1:bK l k=some v:=by
   have J:=A' (.held (.bool true));have R:=A' (.held (.bool false));rw[zu]at J R;injection J with J;injection R with R;cases hg:bK l k with
   |none=>rw[hg]at J R;rw[<-J]at R;simp at R
   |some z=>rw[hg]at J;exact congrArg some J
  refine .inr ⟨k,v,w',List.mem_filter.2 ⟨Bm A1,A2⟩,A7,I,⟨_,j,A0,?_,λkl A8=>U kl ?_⟩,A4,A5,A6,by rw[A0.left_eq,hle];exact A3⟩
  ·unfold bf;rw[List.filter_filter];refine List.filter_congr λx _=>?_;show(!decide (x.1=k)&&left (.int .i64 x.1))=(left (.int .i64 x.1)&& !(Lit.int .i64 x.1).sameKey (.int .i64 k));have: (Lit.int .i64 x.1).sameKey (.int .i64 k)=decide (x.1=k):=lX x k;rw[this,Bool.and_comm]
  ·exact(Bool.and_eq_true_iff.1 A8).1
theorem yM {n cnt:Nat} {left:Lit->Bool} (h:w.ranges P K vR b r n (wW l) left cnt):w.ranges P K vR b r l.length (wW l) left cnt:=by
 obtain⟨es,clock,since,seen,J,R,F,hs,I,U⟩:=h;refine⟨es,clock,since,seen,J,R,F,?_,I,U⟩;have:=congrArg Maps.size I;rw[oJ]at this;have j:Maps.size (DataW.map ((es.toList.map (Go.WideElems.rg P K vR)).foldr DataW.insert []))=es.size:=by simp[Maps.size,length_sorted]
 rw[j]at this;omega
theorem aL.drop (h:aL w P K b r l rem) (hK:P.underlying K=some (.int .i64)) (ht:P.underlying t=some (.map K E)) (k:Int) (hk: (Lit.int .i64 k).wf=true) (ty:TypeId):
 ∃w',(Builtin.delete_ #[t,K] ty #[.map (some b),.int .i64 k]).run P w=.ok (.tuple #[]) w'/\aL w' P K b r (bf l k) (bf rem k)/\w.mapTurned w' b/\w'.rangeLeft b r<=w.rangeLeft b r:=by
 obtain⟨left,A0,h,rfl,R⟩:=h;have hle:=h.left_eq;obtain⟨w',U,j,J,o,hm⟩:=h.drop (Maps.int_keyed hK) ht (Maps.keyOf_int_mk hK hk) ty;rw[Af]at J;have I:∀x:Int×Value,(Lit.int .i64 x.1).sameKey (.int .i64 k)=decide (x.1=k):=λx=>lX x k;refine⟨w',j,⟨_,U,yM J,?_,λkl A'=>?_⟩,hm,by rw[J.left_eq,hle];exact o⟩
 ·unfold bf;rw[List.filter_filter,List.filter_filter];refine List.filter_congr λx _=>?_;rw[I];cases left (.int .i64 x.1)<;>cases decide (x.1=k)<;>rfl
 ·obtain⟨h1,h2⟩:=Bool.and_eq_true_iff.1 A';obtain⟨x,hx,rfl⟩:=R kl h1;rw[I]at h2;exact⟨x,List.mem_filter.2 ⟨hx,h2⟩,rfl⟩
end
end
namespace Co
open Go.RowKit
section
variable {w w':World} {own:Nat->Nat} {i:Nat} {f:Fi} {vs:List Value} {l:KV}
theorem lf.CZ {w0:World} {l0:KV} {X:Nat->Prop} (h:lf w own i f l) (ht:af X w w') (h0:lf w0 own i f l0) (hX:∀b,X b->w0.heap.size<=b):lf w' own i f l where
 blk:=ht.blk h.blk λe=>absurd (hX _ e) (oa h0.blk.lt)
 cA:=ht.map h.cA λe=>absurd (hX _ e) (oa h0.cA.lt)
 fresh:=ht.map h.fresh λe=>absurd (hX _ e) (oa h0.fresh.lt)
 bA:=ht.map h.bA λe=>absurd (hX _ e) (oa h0.bA.lt)
 lost:=ht.map h.lost λe=>absurd (hX _ e) (oa h0.lost.lt)
 nodes:=ht.map h.nodes λe=>absurd (hX _ e) (oa h0.nodes.lt)
 o0:=h.o0
 o1:=h.o1
 o2:=h.o2
 o3:=h.o3
 o4:=h.o4
 o5:=h.o5
 cU:=λp hp=>by have a:=h.cU p hp;have b:=h0.cU p hp;exact⟨ht.blk a.blk λe=>absurd (hX _ e) (oa b.blk.lt),ht.map a.data λe=>absurd (hX _ e) (oa b.data.lt),ht.map a.nodes λe=>absurd (hX _ e) (oa b.nodes.lt),a.o0,a.o1,a.o2⟩
theorem dD.CZ {a b c:World} {X:Nat->Prop} (h:dD own i a b) (ht:af X b c) (hX:∀b,X b->a.heap.size<=b):dD own i a c:=af.trans h ht λb I=>.inr (hX b I)
structure Og (w:World) (own:Nat->Nat) (i:Nat) (f:Fi) (vs:List Value) (k r:Nat) (wr:World) (rem:KV) (p:Int->Bool):Prop where
 Ox:lf wr own i f ((gT vs).filter λy=>p y.1)
 OI:aL wr prog 3 f.fresh r ((gT vs).filter λy=>p y.1) rem
 low:∀n:Int,n<k->p n=true
 high:∀y∈(gT vs).filter (λy=>p y.1),(k:Int)<=y.1->y∈rem
 sub:∀y∈rem,y∈gT vs
 turn:dD own i w wr
theorem Og.done {k r:Nat} {wr:World} {p:Int->Bool} (h:Og w own i f vs k r wr [] p):lf wr own i f (gT (vs.take k)):=by
 have e: ((gT vs).filter λy=>p y.1)=gT (vs.take k):=by
  rw[<-xU vs k];refine List.filter_congr λy J=>?_;by_cases I: (k:Int)<=y.1
  ·cases hp:p y.1 with
   |false=>simp[I]
   |true=>exact absurd (h.high y (List.mem_filter.2 ⟨J,hp⟩) I) sj
  ·rw[h.low y.1 om];simp[I]
 rw[<-e];exact h.Ox
theorem uO (h:lf w own i f (gT vs)) (k:Nat) (hk:k<=100000) (hvs:vs.length<=100000):
 Calls prog 131 #[pt f.g 0,i6 (k:Int)] w (MU w own i f (gT (vs.take k))):=by
 have c1:w.cell? (ae f.g 26)=some (.map (some f.fresh)):=h.blk.cell 26;obtain⟨w1,Aa,A6,A',A7⟩:=aL.start h.fresh az underlying152;have H:=ja h;have HR:=ja A6;have Ab:=ja (⟨A',A7⟩:w.grownBy w1 none/\w1.heap.size=w.heap.size+1);obtain⟨r,hr⟩:=ex w.heap.size;rw[hr]at Aa HR;have Ad:=ja hr;clear h A6 A' A7 hr;go_enter func131,ntmps131;go_wp2;go_loopw [4] (λ_ wr=>∃rem p,Og w own i f vs k r wr rem p) (λ_ wr=>wr.rangeLeft f.fresh r)
 case atStart=>have hT:af (λ_=>False) w w1:=af.bt Ab.a.1 (λ_ e=>by cases e);have e: (gT vs).filter (λ_=>true)=gT vs:=List.filter_eq_self.2 (λ_ _=>rfl);refine⟨gT vs,λ_=>true,by rw[e];exact H.a.CZ hT H.a (λ_ e=>e.elim),by rw[e];exact HR.a,λ_ _=>rfl,λy U _=>(List.mem_filter.1 U).1,λ_ U=>U,hT.mono λ_ e=>e.elim⟩
 case round=>
  obtain⟨rem,p,hS⟩:=hrel;rcases hS.OI.step az 0 with⟨A8,A9⟩|⟨n,v,w2,I,Ae,A9,J,A2,Av,Aw,o⟩
  ·subst A8;have hF:=hS.done;have Ax:wr.cell? (ae f.g 25)=some (.map (some f.cA)):=hF.blk.cell 25;obtain⟨w3,Ah,A3,A0,Ao⟩:=aL.start hF.cA az underlying151;obtain⟨r3,AI⟩:=ex wr.heap.size;rw[AI]at Ah A3;have A4: (Instr.next (pt r3 0) false 0).run prog w3=.ok (.tuple #[.bool false]) w3:=by
    rcases A3.step az 0 with⟨_,hq⟩|⟨n,v,w2,I,_⟩
    ·exact hq
    ·cases I
   have T3:af (λ_=>False) wr w3:=af.bt A0 (λ_ e=>by cases e);have HF:=ja (hF.CZ T3 hF (λ_ e=>e.elim));have HT:=ja (hS.turn.CZ T3 (λ_ e=>e.elim));clear hS hF T3 A3 A0 Ao;go_wp2;(go_loopw [5] (λ_ wq=>wq=w3) (λ_ _=>0));case atStart=>rfl
   case round=>subst hrel;go_wp2;(first|go_end0|refine bodyPost_ret (results_none rfl _ _ _) rfl ?_);exact⟨rfl,HF.a,HT.a⟩
  ·have Aq:w.heap.size<=r:=Nat.le_of_eq Ad.a;have T2:af (· =r) wr w2:=af.bt A2 (λ_ e=>(Option.some.inj e).symm);have hX:∀b,b=r->w.heap.size<=b:=λb e=>(by rw[e];exact Aq);have F2:=hS.Ox.CZ T2 H.a hX;have t2:=hS.turn.CZ T2 hX;obtain⟨j,hj,Ar⟩:=fA.1 (hS.sub _ I);have As:j<vs.length:=(List.getElem?_eq_some_iff.1 hj).1;have n0:-1000000<=n:=(by omega);have n1:n<=1000000:=(by omega);clear hj Ar As;by_cases B': (k:Int)<=n
   ·have B0:w2.cell? (ae f.g 26)=some (.map (some f.fresh)):=F2.blk.cell 26;obtain⟨w3,A4,R,AR,A1⟩:=aL.drop J az underlying152 n Ae 0;have T3:=bL AR;have F3:=F2.sP T3 R.owns;have t3:=t2.trans (dD.of T3 (by rw[F2.o2];omega));have HS:=ja hS;have HQ:=ja (⟨F3,R,t3,Nat.lt_of_le_of_lt A1 o⟩:lf w3 own i f (bf ((gT vs).filter λy=>p y.1) n)/\aL w3 prog 3 f.fresh r (bf ((gT vs).filter λy=>p y.1) n) (bf (bf rem n) n)/\dD own i w w3/\w3.rangeLeft f.fresh r<wr.rangeLeft f.fresh r);clear hS F2 t2 T2 T3 F3 t3 R AR A1 J A2 o I;(go_wp2_with fail);refine(DJ HQ.a.1 n n0 n1).mono ?_;rintro e w4 ⟨rfl,b4⟩;go_wp2;go_roundw;case rel=>
     obtain⟨F3,R,t3,_⟩:=HQ.a;have hS:=HS.a;have Au:=aI b4 none;have e:bf ((gT vs).filter λy=>p y.1) n=(gT vs).filter λy=> !decide (y.1=n)&&p y.1:=(by unfold bf;rw[List.filter_filter]);rw[e]at F3 R;refine⟨_,λm=> !decide (m=n)&&p m,F3.below b4,R.kept Au sj sj,λm hm=>?_,λy U A5=>?_,λy U=>?_,t3.trans (af.aj b4)⟩
     ·rw[hS.low m hm];have:¬m=n:=(by omega);simp[this]
     ·obtain⟨h1,h2⟩:=List.mem_filter.1 U;obtain⟨h3,h4⟩:=Bool.and_eq_true_iff.1 h2;have h5:=hS.high y (List.mem_filter.2 ⟨h1,h4⟩) A5;exact List.mem_filter.2 ⟨List.mem_filter.2 ⟨h5,h3⟩,h3⟩
     ·exact hS.sub y (List.mem_filter.1 (List.mem_filter.1 U).1).1
    case measure=>rw[HQ.a.2.1.kN (aI b4 none) sj sj];exact HQ.a.2.2.2
   ·have HS:=ja hS;have HQ:=ja (⟨F2,J,t2,o⟩:lf w2 own i f ((gT vs).filter λy=>p y.1)/\aL w2 prog 3 f.fresh r ((gT vs).filter λy=>p y.1) (bf rem n)/\dD own i w w2/\w2.rangeLeft f.fresh r<wr.rangeLeft f.fresh r);clear hS F2 t2 T2 J A2 o I;go_wp2;go_roundw;case rel=>obtain⟨F2,J,t2,_⟩:=HQ.a;have hS:=HS.a;refine⟨_,p,F2,J,hS.low,λy U A5=>?_,λy U=>hS.sub y (List.mem_filter.1 U).1,t2⟩;have:¬y.1=n:=(by omega);exact List.mem_filter.2 ⟨hS.high y U A5,by simp[this]⟩
    case measure=>exact HQ.a.2.2.2
end
end Co
end Go.Proofs.YtdhgejiacehpbaaGreatDoor
