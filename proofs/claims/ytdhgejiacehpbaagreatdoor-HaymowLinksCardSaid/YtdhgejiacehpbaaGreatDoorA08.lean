import Derived.Test.YtdhgejiacehpbaaGreatDoorA07
set_option maxRecDepth 100000
set_option maxHeartbeats 16000000
set_option linter.all false
namespace Go.Proofs.YtdhgejiacehpbaaGreatDoor
open Go.Proofs.Tryz
namespace Co
open Go.RowKit
open Sq (Pc fj)
section
variable {w w':World} {c:C} {fs:List Fi}
theorem Cz (A:Option Addr) (n c k:Nat) (hk:k<=n) (z:Int) (hz:z=k) (W:World):
 (Instr.slice 50 (.slice A n c) (some (i6 z)) none none).run prog W=.ok (.slice (if c=k then A else A.map (·.add k)) (n-k) (c-k)) W:=by
 subst hz;rw[run_slice_l _ _ _ _ _ kj .i64 _ om om,Int.toNat_natCast];have hs: (sizeOf (prog.elem 50)).run prog W=.ok 1 W:=kj;rw[hs];simp[Result.andThen,sliced]
theorem Lg {w:World} {B:Nat} {A:Option Addr} {c:Nat} {x:Int} {r:List Int} (h:Is .i64 w B (.slice A (r.length+1) c) (x::r)):
 ∃A' c',(∀W,(Instr.slice 50 (.slice A (r.length+1) c) (some (i6 1)) none none).run prog W=.ok (.slice A' r.length c') W)/\Is .i64 w B (.slice A' r.length c') r/\∀b,(Value.slice A' r.length c').ownBlock=some b->(Value.slice A (r.length+1) c).ownBlock=some b:=by
 have R:=λW=>Cz A (r.length+1) c 1 om 1 rfl W;simp only[Nat.add_sub_cancel]at R;refine⟨_,_,R,?_,λb I=>?_⟩;rotate_left
 ·cases A with
  |none=>split at I<;>cases I
  |some a=>split at I<;>exact I
 obtain⟨A',c',he,U,h3,o,h5⟩:=h;injection he with e1 e2 e3;subst e1 e3;simp only[List.length_cons]at U o;refine⟨_,_,rfl,by omega,by omega,by simp,λhp=>?_⟩;obtain⟨b,off,rfl,I,hc⟩:=h5 sj;have J:¬c=1:=by omega
 refine⟨b,off+1,by simp[J,Addr.add],I,λj u hj=>?_⟩;have:=hc (j+1) u (by simpa using hj);rw[show off+1+j=off+(j+1) by omega];exact this
def mb (vs:List Value) (qs:List Pc):List Value:=qs.foldl (λvs q=>gQ vs q.n q.v) vs
theorem Ix (vs:List Value) (a b:List Pc):mb vs (a++b)=mb (mb vs a) b:=by unfold mb;rw[List.foldl_append]
def N_:Value->Nat
 | .slice _ n _=>n
 |_=>0
theorem fj.turn {X:Nat->Prop} {B:Nat} {u:Value} {qs:List Pc} (h:fj w B u qs) (hB:B<=w.heap.size) (ht:af X w w') (hu:∀b,u.ownBlock=some b->¬X b) (hq:∀q∈qs,∀b,q.v.ownBlock=some b->¬X b):fj w' B u qs:=⟨ht.fe h.1 hB hu,λq I=>⟨ht.fe (h.2 q I).1 hB (hq q I),(h.2 q I).2⟩⟩
def dJ (qs:List Pc):List Int:=qs.map λq=>(q.n:Int)
theorem DC (vs:List Value) (n:Nat) (v:Value): (gQ vs n v).length<=vs.length+1:=by unfold gQ;split<;>simp
theorem nM:∀(qs:List Pc) (vs:List Value),(mb vs qs).length<=vs.length+qs.length
 |[],_=>Nat.le_refl _
 |q::r,vs=>by have h:=nM r (gQ vs q.n q.v);have I:=DC vs q.n q.v;have e:mb vs (q::r)=mb (gQ vs q.n q.v) r:=rfl;rw[e,List.length_cons];omega
theorem rT (qs:List Pc) (j:Nat) (h:j<qs.length):dJ (qs.drop j)=(qs[j].n:Int)::dJ (qs.drop (j+1)):=by rw[List.drop_eq_getElem_cons h];rfl
theorem jG (l:List Pc): (dJ l).length=l.length:=List.length_map _
theorem yQ {w0 w2 w9 wz:World} {c2:C} {i:Nat} {f f2:Fi} {u:Value} {qs:List Pc} {VS:List Value} {d':List UInt8} {size:Nat} {tk:Int} (lk:r7 f f2) (H2:bD w2 c2 (fs.set i f2)) (s2:Step w0 c w2 c2) (hf2: (fs.set i f2)[i]? =some f2) (hs20:w0.heap.size<=w2.heap.size) (hq:fj w2 w0.heap.size u qs)
 (hoq:∀q∈qs,∀b,q.v.ownBlock=some b->c.own b=0/\b<w.heap.size) (hww:w.heap.size<=w0.heap.size) (h9:lf w9 c2.own i f2 (gT VS)) (t9:dD c2.own i w2 w9) (tz:af (· =f2.g) w9 wz)
 (hb:ak wz f2.g 155 ((f2.cells.set 5 (i6 (size:Int))).set 6 (i6 tk))) (hd:d'.length=size)
 (hoct:∀n v,VS[n]? =some v->(f.vs[n]? =some v/\Sp.blk f.d n=Sp.blk d' n)\/∃q∈qs,q.v=v/\q.l=Sp.blk d' n) (hok: (Sp.F.mk d' VS.length).ok):
 bD wz c2 (fs.set i {f2 with d:=d',vs:=VS,tick:=tk})/\Step w2 c2 wz c2:=by
 have J:dD c2.own i w2 wz:=t9.trans (dD.of tz (by rw[h9.o0];omega));have U:=H2.fi i f2 hf2;have key:=H2.Jr (f':={f2 with d:=d',vs:=VS,tick:=tk}) hf2 J (λb hb _=>hb) ?_ rfl
 ·rw[List.set_set]at key;exact key
 exact{
  blk:=by subst hd;exact hb
  cA:=tz.map h9.cA λe=>absurd (e▸h9.o1) (by rw[h9.o0];omega)
  fresh:=tz.map h9.fresh λe=>absurd (e▸h9.o2) (by rw[h9.o0];omega)
  bA:=tz.map h9.bA λe=>absurd (e▸h9.o3) (by rw[h9.o0];omega)
  lost:=tz.map h9.lost λe=>absurd (e▸h9.o4) (by rw[h9.o0];omega)
  nodes:=tz.map h9.nodes λe=>absurd (e▸h9.o5) (by rw[h9.o0];omega)
  o0:=h9.o0
  o1:=h9.o1
  o2:=h9.o2
  o3:=h9.o3
  o4:=h9.o4
  o5:=h9.o5
  cU:=λp hp=>(h9.cU p hp).bU tz (λb e _=>by rw[e,h9.o0];omega) (λ_ _=>rfl)
  jW:=λn v j=>by
   rcases hoct n v j with⟨I,R⟩|⟨q,I,rfl,R⟩
   ·rw[<-lk.vs]at I;obtain⟨o,a2⟩:=U.jW n v I;refine⟨?_,a2⟩;show Bs wz wz.heap.size v (Sp.blk d' n);rw[<-R,<-lk.d];exact af.bs J o λb hb e=>by have:=a2 b hb;omega
   ·have o2:∀b,q.v.ownBlock=some b->c2.own b=0:=λb hb=>(s2.own b (Nat.lt_of_lt_of_le (hoq q I b hb).2 hww)).trans (hoq q I b hb).1;refine⟨?_,o2⟩;show Bs wz wz.heap.size q.v (Sp.blk d' n);rw[<-R];exact af.bs J ((hq.2 q I).1.more hs20) λb hb e=>by have:=o2 b hb;omega
  ok:=hok}
structure GB (w:World) (g:Nat) (t:TypeId) (cs:List Value) (u v:Value) (f:Nat->Bool) (x:World):Prop where
 turn:af (· =g) w x
 blk:ak x g t (if f 15=true then(if f 11=true then cs.set 5 u else cs).set 6 v else if f 11=true then cs.set 5 u else cs)
section
variable {x:World} {g:Nat} {t:TypeId} {cs:List Value} {u v:Value} {f:Nat->Bool}
theorem GB.quiet (h:GB w g t cs u v f x) (i:Nat) (h1:i≠11) (h2:i≠15):GB w g t cs u v (λj=>decide (j=i)||f j) x:=by
 refine⟨h.turn,?_⟩;have I: (decide (11=i)||f 11)=f 11:=by rw[decide_eq_false (λe=>h1 e.symm),Bool.false_or]
 have J: (decide (15=i)||f 15)=f 15:=by rw[decide_eq_false (λe=>h2 e.symm),Bool.false_or]
 simp only[I,J];exact h.blk
theorem GB.c5 (h:GB w g t cs u v f x) (hf:f 11=false):x.cell? (ae g 5)=cs[5]? :=by
 rw[h.blk.cell 5,hf];split
 ·simp
 ·simp
theorem GB.c6 (h:GB w g t cs u v f x) (hf:f 15=false):x.cell? (ae g 6)=cs[6]? :=by
 rw[h.blk.cell 6,hf];simp only[Bool.false_eq_true,if_false];split
 ·simp
 ·rfl
theorem GB.Oa (h:GB w g t cs u v f x) (hf:f 11=false):GB w g t cs u v (λj=>decide (j=11)||f j) (x.setCell (ae g 5) u):=by
 refine⟨h.turn.trans (af.setCell x g 5 u) (λ_ e=>.inl e),?_⟩;have b:=h.blk.aC 5 u;rw[hf]at b;have I: (decide (15=11)||f 15)=f 15:=by simp
 simp only[I,decide_true,Bool.true_or,if_true];simp only[Bool.false_eq_true,if_false]at b;split at b
 ·rename_i h15;rw[if_pos h15,List.set_comm _ _ dc];exact b
 ·rename_i h15;rw[if_neg h15];exact b
theorem GB.NO (h:GB w g t cs u v f x) (hf:f 15=false):GB w g t cs u v (λj=>decide (j=15)||f j) (x.setCell (ae g 6) v):=by
 refine⟨h.turn.trans (af.setCell x g 6 v) (λ_ e=>.inl e),?_⟩;have b:=h.blk.aC 6 v;rw[hf]at b;have I: (decide (11=15)||f 11)=f 11:=by simp
 simp only[I,decide_true,Bool.true_or,if_true];simp only[Bool.false_eq_true,if_false]at b;exact b
end
def Ni (w:World) (c:C) (fs:List Fi) (i:Nat) (f:Fi) (d':List UInt8) (VS:List Value) (e:Ending) (w':World):Prop:=∃c' f',e=.returned (.tuple #[])/\r7 {f with d:=d',vs:=VS,tick:=c.tick} f'/\(∃own,c'={c with own:=own,av:=c.av.set (i+1) (i6 c.tick)})/\bD w' c' (fs.set i f')/\Step w c w' c'
theorem Ov {p:Prop} (h:p:=by
 have k9:=af.blk HFT9.a K62.a (λe=>by have h9:=HOG2.a;omega);have d0:w9.cell? (ae g 0)=some (i6 (size:Int)):=k9.cell 0;have hcg:c2.own c.g/10=i+1->False:=λe=>by have:=HE.a.2.2.2.1.o1;rw[HEC.a]at this;omega
 have kc9:=af.blk HFT9.a HE.a.2.2.2.1.core (λe=>by rw[HEC.a]at e;exact hcg e);rw[HEC.a]at kc9;have d7:w9.cell? (ae c.g 179)=some (i6 c.tick):=(kc9.cell _).trans (by rw[<-HET.a];exact fY HE.a.2.2.2.1.len);have ltg:g<w9.heap.size:=k9.lt;have ltc:c.g<w9.heap.size:=kc9.lt;have ng:¬g=f2.g:=λe=>by have h1:=HOG2.a;have h2:=HFL9.a.o0;rw[e]at h1;omega
 have ncg:¬c.g=f2.g:=λe=>by have h1:=HE.a.2.2.2.1.o1;rw[HEC.a]at h1;have h2:=HFL9.a.o0;rw[e]at h1;omega
 have hfz:=HFL9.a.blk;have q5:f2.cells[5]? =some (i6 (f2.d.length:Int)):=rfl;have q6:f2.cells[6]? =some (i6 f2.tick):=rfl;clear k9 kc9;go_upto_region 12 with fail
 have hG0:GB w9 f2.g 155 f2.cells (i6 (size:Int)) (i6 c.tick) (λ_=>false) w9.drew:=⟨af.aj bh.drew,hfz.drew⟩;clear hfz;refine dF 16 [pt f2.g 0,pt f2.g 0,pt g 0,i6 (size:Int),pt c.g 0,pt c.g 0,pt c.g 179,i6 c.tick,pt f2.g 0,pt f2.g 2,pt f2.g 5,undef,pt f2.g 0,pt f2.g 2,pt f2.g 6,undef] (GB w9 f2.g 155 f2.cells (i6 (size:Int)) (i6 c.tick)) kj rfl kj ?_ ?_ ?_
 ·exact hG0
 ·refine⟨gz [] [8] λf x hfi hG=>(hG.quiet 0 dc dc),gz [] [8] λf x hfi hG=>(hG.quiet 1 dc dc),gz [] [6] λf x hfi hG=>(hG.quiet 2 dc dc),?_,gz [] [0] λf x hfi hG=>(hG.quiet 4 dc dc),gz [4,69] [] λf x hfi hG=>(hG.quiet 5 dc dc),gz [5,70] [] λf x hfi hG=>(hG.quiet 6 dc dc),?_,gz [0,65] [] λf x hfi hG=>(hG.quiet 8 dc dc),gz [8,73] [] λf x hfi hG=>(hG.quiet 9 dc dc),gz [9,74] [] λf x hfi hG=>(hG.quiet 10 dc dc),?_,gz [1,66] [] λf x hfi hG=>(hG.quiet 12 dc dc),gz [12,76] [] λf x hfi hG=>(hG.quiet 13 dc dc),gz [13,77] [] λf x hfi hG=>(hG.quiet 14 dc dc),?_,trivial⟩
  ·intro f a x hfi hdf hcl hG hd hs K hK;have h67:_=_:=hd 2 67 kj;clear hd hs;refine pj ?_;have hc:=(hG.turn.cell (p:=ae g 0) ltg ng).trans d0;go_simp;exact hK _ _ rfl (hG.quiet 3 dc dc)
  ·intro f a x hfi hdf hcl hG hd hs K hK;have h71:_=_:=hd 6 71 kj;clear hd hs;refine pj ?_;have hc:=(hG.turn.cell (p:=ae c.g 179) ltc ncg).trans d7;go_simp;exact hK _ _ rfl (hG.quiet 7 dc dc)
  ·intro f a x hfi hdf hcl hG hd hs K hK;have h75:_=_:=hd 10 75 kj;have h68:_=_:=hd 3 68 kj;clear hd hs;refine pj ?_;have hc:=(hG.c5 hfi).trans q5;have hf:=hG.blk.frozen 5;go_simp;exact hK _ _ rfl (hG.Oa hfi)
  ·intro f a x hfi hdf hcl hG hd hs K hK;have h78:_=_:=hd 14 78 kj;have h72:_=_:=hd 7 72 kj;clear hd hs;refine pj ?_;have hc:=(hG.c6 hfi).trans q6;have hf:=hG.blk.frozen 6;go_simp;exact hK _ _ rfl (hG.NO hfi)
 ·intro x hG;(iterate 14 rintro _ rfl);simp only[ap];(try simp only[Exit.then]);have hgb:=hG.blk;have hgt:=hG.turn;simp only[show decide (15<16)=true from rfl,show decide (11<16)=true from rfl,if_true]at hgb;clear hG hG0 q5 q6;have d7x:x.cell? (ae c.g 179)=some (i6 c.tick):=(hgt.cell (p:=ae c.g 179) ltc ncg).trans d7;have ltx:c.g<x.heap.size:=Nat.lt_of_lt_of_le ltc hgt.size;have HGB:=ja hgb;have HGT:=ja hgt;clear hgb hgt d0 d7;generalize x=wz at*;have hG0:Bw wz wz.drew:=bh.drew;have hn39i: (nn:Int)<40:=(by have:=HNN.a;omega);(go_upto_region 13 with fail);refine aQ 11 10 [(ez (pt c.g 0)),(ez (i6 (nn:Int))),(ez (pt c.g 0)),(ez (pt c.g 0)),(ez (pt c.g 179)),(ez (i6 c.tick)),(ez (pt c.g 0)),(ez (pt c.g 6)),(ez (pt c.g 127)),(ez (pt c.g (127+nn)))]
   (λq=>Bw wz q) kj rfl dc kj kj ?_ ?_ ?_ ?_
  ·exact hG0
  ·exact sv
  ·refine⟨rz [] [0],rz [] [1],rz [] [0],rz [2,81] [],rz [3,82] [],rx [4,83] [] λx hG=>cl hG ltx d7x,rz [0,79] [],rz [6,85] [],rz [7,86] [],rz [8,87,1,80] [],trivial⟩
  ·intro x hG;(iterate 10 rintro _ rfl);simp only[ap];rw[show List.range' 10 (11-10)=[10]from rfl,wpOps_cons];have hz:bD wz c2 (fs.set i {f2 with d:=d',vs:=VS,tick:=c.tick})/\Step w2 c2 wz c2:=(by have hfl9:=HFL9.a;rw[HVC.a]at hfl9;exact yQ HE.a.1 HE.a.2.2.2.1 HE.a.2.2.2.2.1 HE.a.2.2.2.2.2 hs20 HQ2.a HOQ.a B0.a.size hfl9 HFT9.a HGT.a HGB.a HD.a HOC.a HOKK.a);obtain⟨HC5,S5⟩:=hz;have HC6:=HC5.below hG;have ec:=HEC.a;have hn39:nn<40:=(by have:=HNN.a;omega);have d2:x.cell? (ae c.g (127+nn))=c2.av[nn]? :=(by rw[<-ec];exact(HC6.cell _).trans (fO HC6.len nn hn39));obtain⟨tv,htv⟩:∃tv,c2.av[nn]? =some tv:=⟨_,List.getElem?_eq_getElem (by rw[HC6.len.av];exact hn39)⟩;rw[htv]at d2;have d3:x.frozen? (ae c.g (127+nn))=false:=(by rw[<-ec];exact HC6.core.frozen _);refine pj ?_;go_simp;unfold wpOps;(try simp only[Exit.then]);have HC7:=HC6.p_ nn hn39 (i6 c.tick);have S7:=((Step.below B0.a c).trans (HE.a.2.2.2.2.1.trans (S5.trans (Step.below hG _)))).trans (HC6.step (af.setCell x c2.g (127+nn) (i6 c.tick)) (c':={c2 with av:=c2.av.set nn (i6 c.tick)}) rfl);rw[ec]at HC7 S7;have HC8:=ja HC7;have S8:=ja S7;clear HC7 S7 HC6 HC5 S5 d2 d3 hG hG0 d7x;go_wp2;go_end0;obtain⟨lk,ha,⟨o,ho⟩,_⟩:=HE.a;refine⟨{c2 with g:=c.g,av:=c2.av.set nn (i6 c.tick)},{f2 with d:=d',vs:=VS,tick:=c.tick},rfl,⟨lk.at_,lk.sum,lk.ty,lk.ar,lk.bN,rfl,lk.cU,rfl,rfl⟩,⟨o,?_⟩,HC8.a,S8.a⟩;rw[HNN.a,ho]):p:=h
theorem iw (h:bD w c fs) (i:Nat) (f:Fi) (hf:fs[i]? =some f) (hi:i<39) (ino:Int) (hino:ino=i+1) (u wv:Value) (qs:List Pc) (size:Nat) (hq:fj w w.heap.size u qs) (hw:Is .i64 w w.heap.size wv (dJ qs))
 (hpw:qs.Pairwise λp q=>p.n<q.n) (hvs:f.vs.length<=1000) (hql:qs.length<=1000) (hput:∀k (hk:k<qs.length),qs[k].n<=(mb f.vs (qs.take k)).length)
 (hou:∀b,u.ownBlock=some b->c.own b=0/\b<w.heap.size) (how:∀b,wv.ownBlock=some b->c.own b=0/\b<w.heap.size) (hoq:∀q∈qs,∀b,q.v.ownBlock=some b->c.own b=0/\b<w.heap.size) (hsz:size<=463488)
 (d':List UInt8) (hd:d'.length=size) (VS:List Value) (hVS:VS=if size<f.d.length then(mb f.vs qs).take (Sp.nb size)else mb f.vs qs) (hoct:∀n v,VS[n]? =some v->(f.vs[n]? =some v/\Sp.blk f.d n=Sp.blk d' n)\/∃q∈qs,q.v=v/\q.l=Sp.blk d' n) (hok: (Sp.F.mk d' VS.length).ok):
 Calls prog 74 #[pt c.g 0,i6 ino,.agg #[i6 (size:Int),u],wv] w (Ni w c fs i f d' VS):=by
 obtain⟨A,cc,rfl,hc,hm,_⟩:=hq.open_;have hw2:=hw;obtain⟨A3,c3,rfl,hc3,hm3,_⟩:=hw2;have H:=ja h;have HF:=ja hf;have HI:=ja hino;have HQ:=ja hq;have HW:=ja hw;have HP:=ja hput;have HPW:=ja hpw;have HOU:=ja hou;have HOW:=ja how;have HOQ:=ja hoq;have HD:=ja hd;have HVS:=ja hVS;have HOC:=ja hoct;have HOKK:=ja hok;obtain⟨nn,hnn⟩:∃nn:Nat,nn=i+1:=⟨_,rfl⟩;obtain rfl:ino=(nn:Int):=by omega
 have HNN:=ja hnn;clear h hf hino hq hw hput hpw hou how hoq hd hVS hoct hok hnn;go_enter func74,ntmps74;go_upto_region 1 with fail
 generalize hW:w.alloc (.cells _ 158)=w0;have k6:ak w0 w.heap.size 158 [i6 (size:Int),.slice A qs.length cc]:=by rw[<-hW];exact ak.new w _ _
 have b0:Bw w w0:=by rw[<-hW];exact bh.alloc lh _
 clear hW;obtain⟨g,hg⟩:=ex w.heap.size;have hog:c.own g=0:=H.a.hi g (Nat.le_of_eq hg);rw[hg]at k6|-;have HG:=ja hg;have H0:=ja (H.a.below b0);have K6:=ja k6;have B0:=ja b0;clear hg b0 k6;go_wp2_with fail
 refine(vX H0.a i f HF.a om _ HI.a).mono ?_;rintro e w2 ⟨c2,f2,rfl,lk,ha,ho,H2,s2⟩;have hlt:i<fs.length:=(List.getElem?_eq_some_iff.1 HF.a).1;have hf2: (fs.set i f2)[i]? =some f2:=List.getElem?_set_self hlt;have k62:=s2.turn.blk K6.a (λe=>e hog);have HL0:=(H2.fi i f2 hf2).loose;rw[lk.vs]at HL0;have hq0:=(HQ.a.ext lh B0.a).more B0.a.size;have hq2:fj w2 w0.heap.size (.slice A qs.length cc) qs:=fj.turn hq0 lh s2.turn (λb hb e=>e (HOU.a b hb).1) (λq hq b hb e=>e (HOQ.a q hq b hb).1);have hw0:=(bw.ext HW.a lh B0.a).more B0.a.size;have hw2:=s2.turn.fe hw0 lh (λb hb e=>e (HOW.a b hb).1);have HQ2:=ja hq2;have HW2:=ja hw2;have HE:=ja (⟨lk,ha,ho,H2,s2,hf2⟩:r7 f f2/\f2.age=c.age/\AW c c2/\bD w2 c2 (fs.set i f2)/\Step w0 c w2 c2/\(fs.set i f2)[i]? =some f2);have KL0:=ja HL0;have K62:=ja k62;have d1:w2.cell? (ae g 1)=some (.slice A qs.length cc):=k62.cell 1;have hs20:=s2.turn.size;have own2:∀b,c.own b=0/\b<w.heap.size->c2.own b/10=i+1->False:=λb hb e=>by have e1:=s2.own b (Nat.lt_of_lt_of_le hb.2 B0.a.size);rw[e1,hb.1]at e;omega
 have OWN2:=ja own2;have hog2:c2.own g=0:=(s2.own g (by have:=K6.a.lt;exact this)).trans hog;have HOG2:=ja hog2;clear hq0 hw0 hq2 hw2 HL0 k62 lk ha ho H2 s2 hf2 own2 hog2;go_wp2_with fail
 go_loopw [3,17] (λu3 u17 wr=>∃k:Nat,k<=qs.length/\u17=i6 k/\Is .i64 wr w0.heap.size u3 (dJ (qs.drop (k-1)))/\(∀b,u3.ownBlock=some b->c.own b=0/\b<w.heap.size)/\lf wr c2.own i f2 (gT (mb f.vs (qs.take k)))/\dD c2.own i w2 wr) (λ_ u17 _=>qs.length-(intOf u17).toNat)
 case atStart=>exact⟨0,Nat.zero_le _,rfl,HW2.a,HOW.a,KL0.a,af.refl _ _⟩
 case round=>
  obtain⟨k,hk,rfl,hi3,ho3,hfl,hft⟩:=hrel;by_cases hkl:k<qs.length
  ·have hP:=fj.turn HQ2.a hs20 hft (λb hb=>OWN2.a b (HOU.a b hb)) (λq hq b hb=>OWN2.a b (HOQ.a q hq b hb));obtain⟨_,_,hse,_,_,hcell⟩:=hP.open_;cases hse;obtain⟨b,off,rfl,hbB,x0,x1⟩:=hcell k hkl;rw[show off+(k*2+1)=off+k*2+1 by omega]at x1;have hmem:=List.getElem_mem hkl;obtain⟨hB,hBl⟩:=hP.2 _ hmem;have hpk:=HP.a k hkl;have HTK:=ja (List.take_succ_eq_append_getElem hkl);have HGT:=ja (show∀j,(hj:j<k)->(qs[j]'om).n<qs[k].n fromλj hj=>List.pairwise_iff_getElem.1 HPW.a j k om hkl hj);obtain⟨pn,hpn⟩:=ex (qs[k].n);obtain⟨pl,hpl⟩:=ex (qs[k].l);obtain⟨A',c',hpv,hc',hm',_⟩:=hB.open_;rw[hBl]at hc';rw[hpv,hBl]at x1;rw[hpn]at x0 hpk;have HPV:=ja (⟨hpn,by rw[hpv,hBl]⟩:qs[k].n=pn/\qs[k].v=.slice A' 128 c');have hpn2:pn<=1000000:=(by have:=nM (qs.take k) f.vs;rw[List.length_take]at this;omega);have hgy:=hft.size;have hgl:g<w2.heap.size:=K62.a.lt;have HI3:=ja hi3;have HO3:=ja ho3;have HFL:=ja hfl;have HFT:=ja hft;clear hP hcell hB hBl hmem hi3 ho3 hfl hft hpn hpv hpl;(go_upto_region 5 with fail);obtain⟨W5,hW5⟩:=ex (wr.alloc (.cells #[i6 (pn:Int),.slice A' 128 c'] 225));have ky:ak W5 wr.heap.size 225 [i6 (pn:Int),.slice A' 128 c']:=(by rw[<-hW5];exact ak.new wr _ _);have b6:Bw wr W5:=(by rw[<-hW5];exact bh.alloc lh _);rw[hW5];obtain⟨gy,hgy2⟩:=ex wr.heap.size;rw[hgy2]at ky|-;have HGY:=ja hgy2;have HI5:=ja (HI3.a.ext (Nat.le_trans hs20 hgy) b6);have HFL5:=ja (HFL.a.below b6);have HFT5:=ja (HFT.a.trans (af.aj b6));have KY:=ja ky;clear hW5 hgy2 b6 ky x0 x1;(go_loopw [3] (λu3 wq=>∃j:Nat,k-1<=j/\j<=k/\Is .i64 wq w0.heap.size u3 (dJ (qs.drop j))/\(∀b,u3.ownBlock=some b->c.own b=0/\b<w.heap.size)/\Bw W5 wq) (λu3 _=>N_ u3));case atStart=>exact⟨k-1,Nat.le_refl _,Nat.sub_le _ _,HI5.a,HO3.a,Below.refl _ _⟩
   case round=>
    obtain⟨j,hj1,hj2,hij,hoj,hbj⟩:=hrel;have hjl:j<qs.length:=(by omega);rw[rT qs j hjl]at hij;have hij2:=hij;obtain⟨A4,c4,rfl,hc4,hm4,_,hcell⟩:=hij2;obtain⟨bi,offi,rfl,hbi,hx⟩:=hcell sj;have x0:=hx 0 (i6 (qs[j].n:Int)) sj;rw[Nat.add_zero]at x0;simp only[List.length_cons,jG,List.length_drop]at hc4 hij hoj|-;obtain⟨m,hm⟩:=ex (qs.length-(j+1));rw[hm]at hc4 hij hoj|-;clear hcell hx;obtain⟨jn,hjn⟩:=ex (qs[j].n);rw[hjn]at x0;have ky:=KY.a.ext hbj;have y0:wr.cell? (ae gy 0)=some (i6 (pn:Int)):=ky.cell 0;have y1:wr.cell? (ae gy 1)=some (.slice A' 128 c'):=ky.cell 1;have gd1:decide ((0:Int)<((m+1:Nat):Int))=true:=decide_eq_true om;have HIJ:=ja hij;have HOJ:=ja hoj;have HBJ:=ja hbj;have HM:=ja hm;clear hij hoj hbj ky hm;by_cases hjk:j=k
    ·obtain rfl:jn=pn:=(by rw[<-hjn,<-HPV.a.1];subst hjk;rfl);have gd2:decide (jn<jn)=false:=decide_eq_false (Nat.lt_irrefl _);clear hjn;(go_upto_region 5 with fail);go_quiet (fail);(go_upto_region 7 with fail);have bq:=below_drewN (Below.refl wr.heap.size wr) nq;obtain⟨W7,hW7⟩:=ex (wr.drewN nq);rw[hW7]at bq|-;have bq2:=HBJ.a.trans (bq.mono HBJ.a.size);have y0:W7.cell? (ae gy 0)=some (i6 (jn:Int)):=(KY.a.ext bq2).cell 0;have y1:W7.cell? (ae gy 1)=some (.slice A' 128 c'):=(KY.a.ext bq2).cell 1;have x0:W7.cell? (ae bi offi)=some (i6 (jn:Int)):=(bq.cell (by have:=HFT5.a.size;have:=HBJ.a.size;show bi<wr.heap.size;omega)).trans x0;have BQ2:=ja bq2;have BQ:=ja bq;clear hW7 bq bq2;go_quiet (fail);have bq3:=below_drewN (Below.refl W7.heap.size W7) nq;obtain⟨W8,hW8⟩:=ex (W7.drewN nq);rw[hW8]at bq3|-;have bq4:=BQ2.a.trans (bq3.mono BQ2.a.size);have y0:W8.cell? (ae gy 0)=some (i6 (jn:Int)):=(KY.a.ext bq4).cell 0;have y1:W8.cell? (ae gy 1)=some (.slice A' 128 c'):=(KY.a.ext bq4).cell 1;have FL8:=ja (HFL5.a.below bq4);have FT8:=ja (HFT5.a.trans (af.aj bq4));have BQ4:=ja bq4;have BQ3:=ja bq3;clear hW8 bq3 bq4 x0;have hvl:=nM (qs.take k) f.vs;rw[List.length_take]at hvl;have hn2: (mb f.vs (qs.take k)).length<=100000:=(by omega);clear hvl;(go_wp2_with fail);refine(sq FL8.a jn hpk hn2 A' 128 c').mono ?_;rintro e w9 ⟨rfl,fl9,ft9⟩;have FT9:=ja (FT8.a.trans ft9);have FTP:=ja ft9;have FL9:=ja fl9;clear fl9 ft9;go_wp2;go_roundw;case rel=>have z1:=HFT5.a.size;have z2:=HBJ.a.size;have z3:=BQ4.a.size;subst hjk;have hij:Is .i64 w9 w0.heap.size (.slice (some ⟨bi,offi,none⟩) (m+1) c4) (dJ (qs.drop (j+1-1))):=(by rw[Nat.add_sub_cancel,rT qs j hjl];have h1:=bw.ext HIJ.a om (BQ.a.trans (BQ3.a.mono BQ.a.size));have h2:=af.fe FTP.a h1 (oa BQ4.a.size) (λb hb=>OWN2.a b (HOJ.a b hb));exact h2);refine⟨j+1,by omega,by go_num,hij,HOJ.a,?_,FT9.a⟩;rw[HTK.a,Ix];have e:mb (mb f.vs (qs.take j)) [qs[j]]=gQ (mb f.vs (qs.take j)) qs[j].n qs[j].v:=rfl;rw[e,HPV.a.1,HPV.a.2];exact FL9.a
     case measure=>exact ms
    ·have gd2:decide (jn<pn)=true:=(by rw[<-hjn,<-HPV.a.1];have:=HGT.a j om;exact decide_eq_true om);clear hjn;obtain⟨A6,c6,hsl6,hi6,ho6⟩:=Lg (A:=some ⟨bi,offi,none⟩) (c:=c4) (x:=(qs[j].n:Int)) (r:=dJ (qs.drop (j+1))) (by rw[jG,List.length_drop,HM.a];exact HIJ.a);rw[jG,List.length_drop,HM.a]at hsl6 hi6 ho6;have HO6:=ja ho6;clear ho6;have HI6:=ja hi6;clear hi6;(go_upto_region 5 with fail);go_quiet (fail);go_wp2;go_roundw;case rel=>have bq:=below_drewN (Below.refl wr.heap.size wr) nq;have z1:=HFT5.a.size;have z2:=HBJ.a.size;exact⟨j+1,by omega,by omega,HI6.a.ext om bq,λb hb=>HOJ.a b (HO6.a b hb),HBJ.a.trans (bq.mono z2)⟩
     case measure=>show m<m+1;omega
  ·obtain rfl:k=qs.length:=(by omega);rw[List.take_length]at hfl;have HEC:=ja (show c2.g=c.g by obtain⟨o,e⟩:=HE.a.2.2.1;rw[e]);have HET:=ja (show c2.tick=c.tick by obtain⟨o,e⟩:=HE.a.2.2.1;rw[e]);have HED:=ja (show f2.d.length=f.d.length by rw[HE.a.1.d]);have kr:=af.blk hft K62.a (λe=>by have h9:=HOG2.a;omega);have y0:wr.cell? (ae g 0)=some (i6 (size:Int)):=kr.cell 0;have y5:wr.cell? (ae f2.g 5)=some (i6 (f.d.length:Int)):=(hfl.blk.cell 5).trans (by rw[<-HED.a];rfl);have HFL:=ja hfl;have HFT:=ja hft;clear hfl hft hi3 ho3 kr;by_cases hsh:size<f.d.length
   ·(go_upto_region 10 with fail);go_quiet (fail);have bq:=below_drewN (Below.refl wr.heap.size wr) nq;obtain⟨W7,hW7⟩:=ex (wr.drewN nq);rw[hW7]at bq|-;have y0:W7.cell? (ae g 0)=some (i6 (size:Int)):=(bq.cell (by have:=HFT.a.size;have:=K62.a.lt;show g<wr.heap.size;omega)).trans y0;have FL7:=ja (HFL.a.below bq);have FT7:=ja (HFT.a.trans (af.aj bq));clear hW7 bq y5;(go_wp2_with fail);refine(Sq.ij size _ om).mono ?_;rintro e w' ⟨rfl,rfl⟩;have hv9:=nM qs f.vs;have hnb:Sp.nb size<=100000:=(by unfold Sp.nb;omega);have hv10: (mb f.vs qs).length<=100000:=(by omega);clear hv9;(go_wp2_with fail);refine(uO FL7.a (Sp.nb size) hnb hv10).mono ?_;rintro e w9 ⟨rfl,fl9,ft9⟩;have HFL9:=ja fl9;have HFT9:=ja (FT7.a.trans ft9);clear fl9 ft9 y0 hnb hv10;have HVC:=ja (show(mb f.vs qs).take (Sp.nb size)=VS by rw[HVS.a,if_pos hsh]);exact Ov
   ·have hsh2:¬(size:Int)<(f.d.length:Int):=(by omega);(go_upto_region 10 with fail);go_quiet (fail);have bq:=below_drewN (Below.refl wr.heap.size wr) nq;obtain⟨w9,hW7⟩:=ex (wr.drewN nq);rw[hW7]at bq|-;have HFL9:=ja (HFL.a.below bq);have HFT9:=ja (HFT.a.trans (af.aj bq));clear hW7 bq y5 y0;have HVC:=ja (show mb f.vs qs=VS by rw[HVS.a,if_neg hsh]);exact Ov
end
end Co
namespace Sq
open Go.RowKit
theorem mf (d:List UInt8) (n j:Nat) (h:d.length<=128*n+j): (Sp.blk d n).getD j 0=0:=by
 rcases Nat.lt_or_ge j 128 with I|I
 ·rw[Sp.iT d n j I,List.getD_eq_getElem?_getD,List.getElem?_eq_none h];rfl
 ·rw[List.getD_eq_getElem?_getD,List.getElem?_eq_none (by rw[Sp.aM];exact I)];rfl
theorem yG (ps:List Pc) (d:List UInt8) (h:ps.map nl=p8 d (Sp.nb d.length)) (hd:d.length<=463488):Vd d.length ps:=by
 have hlen:ps.length=Sp.nb d.length:=by have:=congrArg List.length h;simpa [p8]using this
 have I:∀p∈ps,∃k,k<ps.length/\p.n=k/\p.l=Sp.blk d k:=λp hp=>by obtain⟨k,J,rfl⟩:=List.getElem_of_mem hp;exact⟨k,J,p6 ps d _ h k J⟩
 refine⟨hd,List.pairwise_iff_getElem.2 λi j hi R U=>?_,λp hp=>?_,λp hp j R=>?_⟩
 ·rw[(p6 ps d _ h i hi).1,(p6 ps d _ h j R).1];exact U
 ·obtain⟨k,J,e,_⟩:=I p hp;omega
 ·obtain⟨k,J,e,o⟩:=I p (List.mem_of_getLast? hp);rw[o];exact mf d k j (by rw[<-e];exact R)
theorem zj (size:Nat) (h:size<=463488):Vd size []:=⟨h,List.Pairwise.nil,λ_ hp=>(by cases hp),λ_ hp=>(by cases hp)⟩
theorem Ee (size:Nat) (p:Pc) (h:size<=463488) (h1:p.n<Sp.nb size) (h2:∀j,size<=128*p.n+j->p.l.getD j 0=0):Vd size [p]:=⟨h,List.pairwise_singleton _ _,λq I=>by rw[List.mem_singleton.1 I];exact h1,λq I=>by injection I with I;subst I;exact h2⟩
end Sq
namespace Co
open Go.RowKit
open Sq (wE oT cI p8)
section
variable {w w':World} {c:C} {fs:List Fi}
def nj (T T':List Value):Prop:=(∀v∈T,v.oneCell'=true)->∀v∈T',v.oneCell'=true
theorem nj.refl (T:List Value):nj T T:=λh=>h
theorem nj.trans {T T' T'':List Value} (h:nj T T') (k:nj T' T''):nj T T'':=λa=>k (h a)
theorem nj.set (T:List Value) (i:Nat) (n:Int):nj T (T.set i (i6 n)):=λh v I=>by
 rcases List.mem_or_eq_of_mem_set I with J|rfl
 ·exact h v J
 ·rfl
def pZ (w:World) (c:C) (fs:List Fi) (i:Nat) (d:List UInt8) (e:Ending) (w':World):Prop:=∃u c',e=.returned (.tuple #[u,i6 0])/\w'.ownsRow w.heap.size 5 1 u d.length (dU d)/\(∃T,c'={c with av:=T}/\nj c.av T)/\bD w' c' fs/\af (· =c.g) w w'
theorem IV (f:Fi) (h:f.vs.length=Sp.nb f.d.length):il f (List.range (Sp.nb f.d.length))=p8 f.d (Sp.nb f.d.length):=by unfold il p8;rw[List.filter_eq_self.2];intro a ha;rw[List.mem_range]at ha;exact decide_eq_true om
theorem Oy {p:Prop} (h:p:=by
 obtain⟨nn,hnn⟩:∃nn:Nat,nn=i+1:=⟨_,rfl⟩;obtain rfl:ino=(nn:Int):=by omega
 have H:=ja h;have HF:=ja hf;have HI:=ja hino;have HV:=ja hv;have HNN:=ja hnn;have hdp: (0:Int)<(f.d.length:Int):=by omega
 obtain⟨last,hlast⟩:∃last:Nat,((f.d.length:Int)-1)/128=(last:Int):=⟨(f.d.length-1)/128,by omega⟩;have HLA:=ja (show last+1=Sp.nb f.d.length by unfold Sp.nb;omega);have hla:last<=1000:=by omega
 clear h hf hino hv hnn;go_enter func40,ntmps40;go_wp2_with fail
 refine(cN H.a i f HF.a om _ HI.a).mono ?_;rintro e w1 ⟨rfl,b1⟩;have H1:=ja (H.a.below b1);have y5:w1.cell? (ae f.g 5)=some (i6 (f.d.length:Int)):=(H1.a.fi i f HF.a).blk.cell 5;have B1:=ja b1;clear b1;go_wp2_with fail
 go_loopw [12,14] (λu12 u14 wr=>∃k:Nat,k<=last+1/\u14=i6 k/\wr.ownsRow w1.heap.size 3 1 u12 k ((wE k).map (Value.int .i64))/\Bw w1 wr) (λ_ u14 _=>last+1-(intOf u14).toNat)
 case atStart=>exact⟨0,Nat.zero_le _,rfl,World.ownsRow_nil _ _ _ _,Below.refl _ _⟩
 case round=>
  obtain⟨k,hk,rfl,hown,hbr⟩:=hrel;by_cases hkl:k<last+1
  ·have hkt: (k:Int)<=(last:Int):=(by omega);have HO:=ja hown;have HB:=ja hbr;have hsz:=hbr.size;clear hown hbr;(go_wp2_with(at_builtin;refine bT ?_));refine aH rfl _ _ rfl rfl rfl sj underlying50 cI rfl dc HO.a rfl (by simp[Value.oneCell']) (by rw[aq];omega) om hsz ?_;intro v8 w8 hown8 hgr8;have HO8:=ja hown8;have HB8:=ja (HB.a.grown hgr8 hsz (λj e=>(HO.a.lt j e).1));clear hown8 hgr8;go_wp2;go_roundw;case rel=>refine⟨k+1,by omega,by go_num,?_,HB8.a⟩;rw[oT,List.map_append];exact HO8.a
   case measure=>exact ms
  ·obtain rfl:k=last+1:=(by omega);have hkt:¬((last+1:Nat):Int)<=(last:Int):=(by omega);have HIS:=ja (Sq.qP hown);have HC2:=ja (H1.a.below hbr);have HB2:=ja (B1.a.trans (hbr.mono B1.a.size));clear hown hbr;(go_wp2_with fail);have hpc:=ep HC2.a i f HF.a u12 (List.range (last+1)) HIS.a (λn hn=>by rw[List.mem_range]at hn;omega) (by rw[List.length_range];omega);refine hpc.mono ?_;rintro e w3 ⟨u,ps,rfl,hp,hpm,b3⟩;clear hpc;rw[HLA.a,IV f HV.a]at hpm;obtain⟨A,cc,rfl,_,_,_⟩:=hp.open_;have HP:=ja hp;have HPM:=ja hpm;have HC3:=ja (HC2.a.below b3);have HB3:=ja (HB2.a.trans (b3.mono HB2.a.size));clear hp hpm b3;(go_upto_region 14 with fail);obtain⟨W4,hW4⟩:=ex (w3.alloc (.cells #[i6 (f.d.length:Int),.slice A ps.length cc] 158));have k15:ak W4 w3.heap.size 158 [i6 (f.d.length:Int),.slice A ps.length cc]:=(by rw[<-hW4];exact ak.new w3 _ _);have b4:Bw w3 W4:=(by rw[<-hW4];exact bh.alloc lh _);rw[hW4];obtain⟨g15,hg15⟩:=ex w3.heap.size;rw[hg15]at k15|-;have y0:W4.cell? (ae g15 0)=some (i6 (f.d.length:Int)):=k15.cell 0;have y1:W4.cell? (ae g15 1)=some (.slice A ps.length cc):=k15.cell 1;have HP4:=ja (HP.a.up b4);have HC4:=ja (HC3.a.below b4);have HB4:=ja (HB3.a.trans (b4.mono HB3.a.size));clear hW4 hg15 k15 b4 y5;(go_wp2_with fail);refine(Sq.kU (.slice A ps.length cc) ps f.d _ W4 HP4.a (Sq.yG ps f.d HPM.a om) HPM.a om om).mono ?_;rintro e w5 ⟨uo,rfl,ho,b5⟩;have HO5:=ja ho;have HC5:=ja (HC4.a.below b5);have HB5:=ja (HB4.a.trans (b5.mono HB4.a.size));have ltc:=(HC4.a.below b5).core.lt;have d7:w5.cell? (ae c.g 179)=some (i6 c.tick):=((HC4.a.below b5).cell _).trans (fY H.a.len);have hn39i: (nn:Int)<40:=(by have:=HNN.a;omega);have hW4:w.heap.size<=W4.heap.size:=HB4.a.size;clear ho b5 y0 y1;(go_upto_region 20 with fail);have hG0:Bw w5 w5.drew:=bh.drew;refine aQ 11 10 [(ez (pt c.g 0)),(ez (i6 (nn:Int))),(ez (pt c.g 0)),(ez (pt c.g 0)),(ez (pt c.g 179)),(ez (i6 c.tick)),(ez (pt c.g 0)),(ez (pt c.g 6)),(ez (pt c.g 127)),(ez (pt c.g (127+nn)))]
    (λq=>Bw w5 q) kj rfl dc kj kj ?_ ?_ ?_ ?_
   ·exact hG0
   ·exact sv
   ·refine⟨rz [] [0],rz [] [1],rz [] [0],rz [2,91] [],rz [3,92] [],rx [4,93] [] λx hG=>cl hG ltc d7,rz [0,89] [],rz [6,95] [],rz [7,96] [],rz [8,97,1,90] [],trivial⟩
   ·intro x hG;(iterate 10 rintro _ rfl);simp only[ap];rw[show List.range' 10 (11-10)=[10]from rfl,wpOps_cons];have HC6:=HC5.a.below hG;have hn39:nn<40:=(by omega);have d2:x.cell? (ae c.g (127+nn))=c.av[nn]? :=(HC6.cell _).trans (fO HC6.len nn hn39);obtain⟨tv,htv⟩:∃tv,c.av[nn]? =some tv:=⟨_,List.getElem?_eq_getElem (by rw[HC6.len.av];exact hn39)⟩;rw[htv]at d2;have d3:x.frozen? (ae c.g (127+nn))=false:=HC6.core.frozen _;refine pj ?_;go_simp;unfold wpOps;(try simp only[Exit.then]);have HC7:=HC6.p_ nn hn39 (i6 c.tick);have T7:=af.setCell x c.g (127+nn) (i6 c.tick);have S7:=(af.aj (X:=(· =c.g)) (HB5.a.trans (hG.mono HB5.a.size))).trans T7 (λ_ e=>.inl e);have HR7:=ja (Sq.cE (aD HO5.a hG) T7 (λb hb e=>by have h1:=(HO5.a.lt b hb).1;have h2:=H.a.core.lt;omega));have HC8:=ja HC7;have S8:=ja S7;clear HC7 S7 HC6 T7 d2 d3 hG hG0 d7;go_wp2;go_ret2;exact⟨_,_,rfl,Sq.jF HR7.a hW4,⟨_,rfl,nj.set _ _ _⟩,HC8.a,S8.a⟩):p:=h
theorem sH (h:bD w c fs) (i:Nat) (f:Fi) (hf:fs[i]? =some f) (hi:i<39) (ino:Int) (hino:ino=i+1) (hv:f.vs.length=Sp.nb f.d.length) (hd:f.d.length<=100000) (hd0:0<f.d.length) (n:Nat) (hn:f.d.length<n) (hn2:n<=1000000):
 Calls prog 40 #[pt c.g 0,i6 ino,i6 0,i6 (n:Int)] w (pZ w c fs i f.d):=by
 have I:¬(n:Int)<0:=by omega
 have J: (0:Int)<(n:Int):=by omega
 exact Oy
theorem sK (h:bD w c fs) (i:Nat) (f:Fi) (hf:fs[i]? =some f) (hi:i<39) (ino:Int) (hino:ino=i+1) (hv:f.vs.length=Sp.nb f.d.length) (hd:f.d.length<=100000) (hd0:0<f.d.length):
 Calls prog 40 #[pt c.g 0,i6 ino,i6 0,i6 (f.d.length:Int)] w (pZ w c fs i f.d):=by
 have I:¬(f.d.length:Int)<0:=by omega
 have J: (0:Int)<(f.d.length:Int):=by omega
 exact Oy
theorem Ca (h:bD w c fs) (i:Nat) (f:Fi) (hf:fs[i]? =some f) (hi:i<39) (ino:Int) (hino:ino=i+1) (hv:f.vs.length=Sp.nb f.d.length) (hd:f.d.length<=100000) (hd0:0<f.d.length) (n:Nat) (hn:f.d.length<=n) (hn2:n<=1000000):
 Calls prog 40 #[pt c.g 0,i6 ino,i6 0,i6 (n:Int)] w (pZ w c fs i f.d):=by
 rcases Nat.lt_or_eq_of_le hn with I|I
 ·exact sH h i f hf hi ino hino hv hd hd0 n I hn2
 ·subst I;exact sK h i f hf hi ino hino hv hd hd0
end
end Co
namespace Co
open Go.RowKit
section
variable {w w':World} {c:C} {fs:List Fi}
theorem ti (h:bD w c fs) (i:Nat) (f:Fi) (hf:fs[i]? =some f) (hi:i<39) (ino:Int) (hino:ino=i+1) (hv:f.vs.length=Sp.nb f.d.length) (hd:f.d=[]) (n:Nat) (hn:0<n) (hn2:n<=1000000):
 Calls prog 40 #[pt c.g 0,i6 ino,i6 0,i6 (n:Int)] w (pZ w c fs i f.d):=by
 obtain⟨I,A1⟩:∃I:Nat,I=i+1:=⟨_,rfl⟩;obtain rfl:ino=(I:Int):=by omega
 have H:=ja h;have HF:=ja hf;have HI:=ja hino;have HV:=ja hv;have AR:=ja A1;have Au:¬(n:Int)<0:=by omega
 have Av: (0:Int)<(n:Int):=by omega
 have Aa:=ja hd;have h0: ((f.d.length:Nat):Int)=0:=by rw[hd];rfl
 have A2:=ja h0;clear h hf hino hv A1 hd h0;go_enter func40,ntmps40;go_wp2_with fail
 refine(cN H.a i f HF.a om _ HI.a).mono ?_;rintro e w1 ⟨rfl,b1⟩;have H1:=ja (H.a.below b1);have y5:w1.cell? (ae f.g 5)=some (i6 0):=((H1.a.fi i f HF.a).blk.cell 5).trans (by show some (i6 (f.d.length:Int))=_;rw[A2.a]);have B1:=ja b1;clear b1;go_wp2_with fail
 have A3:=ep H1.a i f HF.a (.slice none 0 0) [] (bw.fp _ _ _) (λn hn=>by cases hn) (Nat.zero_le _);refine A3.mono ?_;rintro e w3 ⟨u,ps,he,hp,A4,b3⟩;rw[A2.a]at he;subst he;clear A3;obtain⟨A,cc,rfl,_,_,_⟩:=hp.open_;have HP:=ja hp;have A5:=ja A4;have Ab:=ja (H1.a.below b3);have A6:=ja (B1.a.trans (b3.mono B1.a.size));clear hp A4 b3;go_upto_region 14 with fail
 obtain⟨W4,J⟩:=ex (w3.alloc (.cells #[i6 0,.slice A ps.length cc] 158));have j:ak W4 w3.heap.size 158 [i6 0,.slice A ps.length cc]:=by rw[<-J];exact ak.new w3 _ _
 have b4:Bw w3 W4:=by rw[<-J];exact bh.alloc lh _
 rw[J];obtain⟨g15,o⟩:=ex w3.heap.size;rw[o]at j|-;have y0:W4.cell? (ae g15 0)=some (i6 0):=j.cell 0;have y1:W4.cell? (ae g15 1)=some (.slice A ps.length cc):=j.cell 1;have Ad:=ja (HP.a.up b4);have A':=ja (Ab.a.below b4);have A0:=ja (A6.a.trans (b4.mono A6.a.size));clear J o j b4 y5;go_wp2_with fail
 have hr:=Sq.kU (.slice A ps.length cc) ps [] n W4 Ad.a (Sq.yG ps [] (by rw[A5.a];rfl) sj) (by rw[A5.a];rfl) (Nat.zero_le _) om;rw[show((([]:List UInt8).length:Nat):Int)=0 from rfl]at hr;refine hr.mono ?_;rintro e w5 ⟨uo,rfl,ho,b5⟩;clear hr;have A7:=ja ho;have Ae:=ja (A'.a.below b5);have A8:=ja (A0.a.trans (b5.mono A0.a.size));have Ah:=(A'.a.below b5).core.lt;have d7:w5.cell? (ae c.g 179)=some (i6 c.tick):=((A'.a.below b5).cell _).trans (fY H.a.len);have Ao: (I:Int)<40:=by have:=AR.a;omega
 have J:w.heap.size<=W4.heap.size:=A0.a.size;clear ho b5 y0 y1;go_upto_region 20 with fail
 have A9:Bw w5 w5.drew:=bh.drew;refine aQ 11 10 [(ez (pt c.g 0)),(ez (i6 (I:Int))),(ez (pt c.g 0)),(ez (pt c.g 0)),(ez (pt c.g 179)),(ez (i6 c.tick)),(ez (pt c.g 0)),(ez (pt c.g 6)),(ez (pt c.g 127)),(ez (pt c.g (127+I)))]
  (λq=>Bw w5 q) kj rfl dc kj kj ?_ ?_ ?_ ?_
 ·exact A9
 ·exact sv
 ·refine⟨rz [] [0],rz [] [1],rz [] [0],rz [2,91] [],rz [3,92] [],rx [4,93] [] λx hG=>cl hG Ah d7,rz [0,89] [],rz [6,95] [],rz [7,96] [],rz [8,97,1,90] [],trivial⟩
 ·intro x hG;(iterate 10 rintro _ rfl);simp only[ap];rw[show List.range' 10 (11-10)=[10]from rfl,wpOps_cons];have R:=Ae.a.below hG;have U:I<40:=(by omega);have d2:x.cell? (ae c.g (127+I))=c.av[I]? :=(R.cell _).trans (fO R.len I U);obtain⟨tv,Aq⟩:∃tv,c.av[I]? =some tv:=⟨_,List.getElem?_eq_getElem (by rw[R.len.av];exact U)⟩;rw[Aq]at d2;have d3:x.frozen? (ae c.g (127+I))=false:=R.core.frozen _;refine pj ?_;go_simp;unfold wpOps;(try simp only[Exit.then]);have AI:=R.p_ I U (i6 c.tick);have T7:=af.setCell x c.g (127+I) (i6 c.tick);have S7:=(af.aj (X:=(· =c.g)) (A8.a.trans (hG.mono A8.a.size))).trans T7 (λ_ e=>.inl e);have Ar:=ja (Sq.cE (aD A7.a hG) T7 (λb hb e=>by have h1:=(A7.a.lt b hb).1;have h2:=H.a.core.lt;omega));have As:=ja AI;have S8:=ja S7;clear AI S7 R T7 d2 d3 hG A9 d7;go_wp2;go_ret2;rw[Aa.a];exact⟨_,_,rfl,Sq.jF Ar.a J,⟨_,rfl,nj.set _ _ _⟩,As.a,S8.a⟩
theorem qh (h:bD w c fs) (i:Nat) (f:Fi) (hf:fs[i]? =some f) (hi:i<39) (ino:Int) (hino:ino=i+1) (hv:f.vs.length=Sp.nb f.d.length) (hd:f.d=[]):
 Calls prog 40 #[pt c.g 0,i6 ino,i6 0,i6 0] w (pZ w c fs i f.d):=by
 obtain⟨nn,A'⟩:∃nn:Nat,nn=i+1:=⟨_,rfl⟩;obtain rfl:ino=(nn:Int):=by omega
 have H:=ja h;have HF:=ja hf;have HI:=ja hino;have HV:=ja hv;have A5:=ja A';have A6:=ja hd;have h0: ((f.d.length:Nat):Int)=0:=by rw[hd];rfl
 have A0:=ja h0;clear h hf hino hv A' hd h0;go_enter func40,ntmps40;go_wp2_with fail
 refine(cN H.a i f HF.a om _ HI.a).mono ?_;rintro e w1 ⟨rfl,b1⟩;have H1:=ja (H.a.below b1);have y5:w1.cell? (ae f.g 5)=some (i6 0):=((H1.a.fi i f HF.a).blk.cell 5).trans (by show some (i6 (f.d.length:Int))=_;rw[A0.a]);have B1:=ja b1;clear b1;go_wp2_with fail
 have A1:=ep H1.a i f HF.a (.slice none 0 0) [] (bw.fp _ _ _) (λn hn=>by cases hn) (Nat.zero_le _);refine A1.mono ?_;rintro e w3 ⟨u,ps,he,hp,A2,b3⟩;rw[A0.a]at he;subst he;clear A1;obtain⟨A,cc,rfl,_,_,_⟩:=hp.open_;have HP:=ja hp;have A3:=ja A2;have A7:=ja (H1.a.below b3);have A4:=ja (B1.a.trans (b3.mono B1.a.size));clear hp A2 b3;go_upto_region 14 with fail
 obtain⟨R,I⟩:=ex (w3.alloc (.cells #[i6 0,.slice A ps.length cc] 158));have J:ak R w3.heap.size 158 [i6 0,.slice A ps.length cc]:=by rw[<-I];exact ak.new w3 _ _
 have b4:Bw w3 R:=by rw[<-I];exact bh.alloc lh _
 rw[I];obtain⟨g15,U⟩:=ex w3.heap.size;rw[U]at J|-;have y0:R.cell? (ae g15 0)=some (i6 0):=J.cell 0;have y1:R.cell? (ae g15 1)=some (.slice A ps.length cc):=J.cell 1;have A8:=ja (HP.a.up b4);have j:=ja (A7.a.below b4);have o:=ja (A4.a.trans (b4.mono A4.a.size));clear I U J b4 y5;go_wp2_with fail
 have hr:=Sq.kU (.slice A ps.length cc) ps [] 0 R A8.a (Sq.yG ps [] (by rw[A3.a];rfl) sj) (by rw[A3.a];rfl) (Nat.zero_le _) om;rw[show((([]:List UInt8).length:Nat):Int)=0 from rfl]at hr;replace hr:Calls prog 90 #[.agg #[i6 0,.slice A ps.length cc],i6 0,i6 0] R (Sq.Mn R []):=hr;refine hr.mono ?_;rintro e w5 ⟨uo,rfl,ho,b5⟩;clear hr;have A9:=ja ho;have AI:=ja (j.a.below b5);have AR:=ja (o.a.trans (b5.mono o.a.size));have Ab:=(j.a.below b5).core.lt;have d7:w5.cell? (ae c.g 179)=some (i6 c.tick):=((j.a.below b5).cell _).trans (fY H.a.len);have Aa: (nn:Int)<40:=by have:=A5.a;omega
 have I:w.heap.size<=R.heap.size:=o.a.size;clear ho b5 y0 y1;go_wp2;go_ret2;rw[A6.a];exact⟨_,c,rfl,Sq.jF A9.a I,⟨c.av,rfl,nj.refl _⟩,AI.a,af.aj AR.a⟩
end
end Co
namespace Co
open Go.RowKit
open Sq (fj)
section
variable {w w':World} {c:C} {fs:List Fi}
def JA (w:World) (c:C) (fs:List Fi) (i:Nat) (f:Fi) (F:Sp.F) (e:Ending) (w':World):Prop:=∃c' f',e=.returned (i6 0)/\f'.vs.length=F.k/\r7 {f with d:=F.d,vs:=f'.vs,tick:=c.tick} f'/\(∃own,c'={c with own:=own,av:=c.av.set (i+1) (i6 c.tick)})/\bD w' c' (fs.set i f')/\Step w c w' c'
theorem MW (f:Fi) (N:Nat) (hc: (N<f.d.length/\N%128=0)\/¬N<f.d.length):∃(D:List UInt8) (V:List Value),D.length=N/\(V=if N<f.d.length then(mb f.vs []).take (Sp.nb N)else mb f.vs [])/\(∀n v,V[n]? =some v->f.vs[n]? =some v/\Sp.blk f.d n=Sp.blk D n)/\(Sp.F.mk f.d f.vs.length).cut N=⟨D,V.length⟩:=by
 rcases hc with⟨J,hm⟩|R
 ·refine⟨f.d.take N,f.vs.take (Sp.nb N),by rw[List.length_take];omega,by rw[if_pos J];rfl,λn v I=>?_,by unfold Sp.F.cut;rw[if_pos J,List.length_take,Nat.min_comm]⟩;rw[List.getElem?_take]at I;split at I
  ·exact⟨I,(Sp.wF _ _ _ (by unfold Sp.nb at*;omega)).symm⟩
  ·cases I
 ·exact⟨f.d++List.replicate (N-f.d.length) 0,f.vs,by rw[List.length_append,List.length_replicate];omega,by rw[if_neg R];rfl,λn v I=>⟨I,(Sp.BY _ _ _).symm⟩,by unfold Sp.F.cut;rw[if_neg R]⟩
theorem Oq {p:Prop} (h:p:=by
 have H:=ja h;have HF:=ja hf;have HI:=ja hino;obtain⟨hD,hV,hS,hF⟩:=hcd;have HD:=jd hD hV hS hF;clear hD hV hS hF;have n1:¬(N:Int)<0:=by omega
 have n2:¬(463488:Int)<(N:Int):=by omega
 clear h hf hino;go_enter func142,ntmps142;go_wp2_with fail
 refine(i' H.a i f HF.a om _ HI.a).mono ?_;rintro e w1 ⟨rfl,b1⟩;have H1:=ja (H.a.below b1);have y5:w1.cell? (ae f.g 5)=some (i6 (f.d.length:Int)):=(H1.a.fi i f HF.a).blk.cell 5;have B1:=ja b1;clear b1;go_wp2_with fail
 have hpc:=ep H1.a i f HF.a (.slice none 0 0) [] (bw.fp _ _ _) (λn hn=>by cases hn) (Nat.zero_le _);refine hpc.mono ?_;rintro e w3 ⟨u,ps,rfl,hp,hpm,b3⟩;clear hpc;obtain rfl:ps=[]:=by have:=congrArg List.length hpm;simpa [il]using this
 obtain⟨A,cc,rfl,_,_,_⟩:=hp.open_;have HP:=ja hp;have HC3:=ja (H1.a.below b3);have HB3:=ja (B1.a.trans (b3.mono B1.a.size));clear hp hpm b3 y5;go_upto_region 12 with fail
 obtain⟨W4,hW4⟩:=ex (w3.alloc (.cells #[i6 (f.d.length:Int),.slice A 0 cc] 158));have dS:ak W4 w3.heap.size 158 [i6 (f.d.length:Int),.slice A 0 cc]:=by rw[<-hW4];exact ak.new w3 _ _
 have b4:Bw w3 W4:=by rw[<-hW4];exact bh.alloc lh _
 try simp only[List.length_nil]at*
 rw[hW4];obtain⟨g10,hg10⟩:=ex w3.heap.size;rw[hg10]at dS|-;have y0:W4.cell? (ae g10 0)=some (i6 (f.d.length:Int)):=dS.cell 0;have y1:W4.cell? (ae g10 1)=some (.slice A 0 cc):=dS.cell 1;have HP4:=ja (HP.a.up b4);have HC4:=ja (HC3.a.below b4);have HB4:=ja (HB3.a.trans (b4.mono HB3.a.size));have HG10:=ja (show w.heap.size<=g10 by rw[<-hg10];exact HB3.a.size);have K10:=ja dS;clear hW4 hg10 dS b4;go_wp2_with fail
 refine(Sq.iD (.slice A 0 cc) f.d.length N [] W4 HP4.a (Sq.zj _ om) sj om (λp hp=>by cases hp) (λ_=>by omega)).mono ?_;rintro e w5 ⟨u5,qs,v5,rfl,hqn,ho5,hp5,hi5,b5,hu5,hv5⟩;obtain rfl:qs=[]:=by have:=congrArg List.length hqn;simpa using this
 obtain⟨A5,c5,rfl,_,_,_⟩:=hp5.open_;have hi6:=hi5;obtain⟨A6,c6,rfl,_⟩:=hi6;simp only[List.map_nil,List.length_nil]at*;have k5:=K10.a.ext b5;have z0:=k5.cell 0;have z1:=k5.cell 1;have zf:=k5.frozen;have K5:=ja k5;have HQ5:=Lib.hid (⟨hp5,hi5,hu5,hv5,HC4.a.below b5,HB4.a.trans (b5.mono HB4.a.size)⟩:fj w5 w5.heap.size (.slice A5 0 c5) []/\Is .i64 w5 w5.heap.size (.slice A6 0 c6) []/\(∀b,(Value.slice A5 0 c5).ownBlock=some b->W4.heap.size<=b/\b<w5.heap.size)/\(∀b,(Value.slice A6 0 c6).ownBlock=some b->W4.heap.size<=b/\b<w5.heap.size)/\bD w5 c fs/\Bw w w5);clear hqn ho5 hp5 hi5 b5 hu5 hv5 k5 y0 y1;go_upto_region 15 with fail
 obtain⟨W6,hW6⟩:=ex ((w5.setCell (ae g10 0) (i6 (N:Int))).setCell (ae g10 1) (.slice A5 0 c5));obtain⟨hp5,hi5,hu5,hv5,hc5,hb5⟩:=HQ5.out;have k6:=(K5.a.aC 0 (i6 (N:Int))).aC 1 (.slice A5 0 c5);have T6:=(af.setCell w5 g10 0 (i6 (N:Int))).trans (af.setCell _ g10 1 (.slice A5 0 c5)) (λ_ h=>.inl h);have hb6:Bw w W6:=by rw[<-hW6];exact(hb5.setCell (p:=ae g10 0) HG10.a _).setCell (p:=ae g10 1) HG10.a _
 rw[hW6]at k6 T6|-;have y0:W6.cell? (ae g10 0)=some (i6 (N:Int)):=k6.cell 0;have y1:W6.cell? (ae g10 1)=some (.slice A5 0 c5):=k6.cell 1;have hg4:=K10.a.lt;have hp6:=(fj.turn hp5 lh T6 (λb hb e=>by have:=(hu5 b hb).1;omega) (λq hq=>by cases hq)).more T6.size;have hi6:Is .i64 W6 W6.heap.size (.slice A6 0 c6) []:=bw.more (T6.fe hi5 lh (λb hb e=>by have:=(hv5 b hb).1;omega)) T6.size;have hw4:=HB4.a.size;have hou:∀b,(Value.slice A5 0 c5).ownBlock=some b->c.own b=0/\b<W6.heap.size:=λb hb=>⟨H.a.hi b (Nat.le_trans hw4 (hu5 b hb).1),Nat.lt_of_lt_of_le (hu5 b hb).2 T6.size⟩;have how:∀b,(Value.slice A6 0 c6).ownBlock=some b->c.own b=0/\b<W6.heap.size:=λb hb=>⟨H.a.hi b (Nat.le_trans hw4 (hv5 b hb).1),Nat.lt_of_lt_of_le (hv5 b hb).2 T6.size⟩;have hok9:=Sp.DO ⟨f.d,f.vs.length⟩ N (H.a.fi i f HF.a).ok;have hbec:=iw (H.a.below hb6) i f HF.a hi ino HI.a (.slice A5 0 c5) (.slice A6 0 c6) [] N hp6 hi6 List.Pairwise.nil hvl sj (λk hk=>by cases hk) hou how (λq hq=>by cases hq) om D HD.a V HD.b (λn v hv=>.inl (HD.c n v hv)) (by have:=hok9;rw[HD.d]at this;exact this);have HBEC:=ja hbec;have HB6:=ja hb6;clear hp5 hi5 hu5 hv5 hc5 hb5 k6 T6 hW6 hb6 hp6 hi6 hou how hbec z0 z1 zf;go_wp2_with fail
 refine HBEC.a.mono ?_;rintro e w7 ⟨c',f',rfl,lk,ho,HC7,S7⟩;have HZ:=Lib.hid (⟨lk,ho,HC7,S7⟩:_/\_/\_/\_);clear lk ho HC7 S7;go_wp2;go_ret;obtain⟨lk,ho,HC7,S7⟩:=HZ.out;refine⟨c',f',rfl,?_,?_,ho,HC7,(Step.below HB6.a c).trans S7⟩
 ·rw[lk.vs,HD.d]
 ·rw[HD.d];exact⟨lk.at_,lk.sum,lk.ty,lk.ar,lk.bN,lk.tick,lk.cU,rfl,lk.d⟩):p:=h
theorem LQ (h:bD w c fs) (i:Nat) (f:Fi) (hf:fs[i]? =some f) (hi:i<39) (ino:Int) (hino:ino=i+1) (hd:f.d.length<=100000) (hvl:f.vs.length<=1000) (N:Nat) (hN:N<=100000) (hge:¬N<f.d.length):
 Calls prog 142 #[pt c.g 0,i6 ino,i6 (N:Int)] w (JA w c fs i f ((Sp.F.mk f.d f.vs.length).cut N)):=by
 obtain⟨D,V,hcd⟩:=MW f N (.inr hge);have c1:¬(N:Int)<(f.d.length:Int):=by omega
 exact Oq
theorem Bh (h:bD w c fs) (i:Nat) (f:Fi) (hf:fs[i]? =some f) (hi:i<39) (ino:Int) (hino:ino=i+1) (hd:f.d.length<=100000) (hvl:f.vs.length<=1000) (N:Nat) (hN:N<=100000) (hlt:N<f.d.length) (hm:N%128=0):
 Calls prog 142 #[pt c.g 0,i6 ino,i6 (N:Int)] w (JA w c fs i f ((Sp.F.mk f.d f.vs.length).cut N)):=by
 obtain⟨D,V,hcd⟩:=MW f N (.inl ⟨hlt,hm⟩);have c1: (N:Int)<(f.d.length:Int):=by omega
 have c2: (N:Int)%128=0:=by omega
 exact Oq
end
end Co
namespace Co
open Go.RowKit
open Sq (fj nl sW)
section
variable {w w':World} {c:C} {fs:List Fi}
theorem Hi (h:bD w c fs) (i:Nat) (f:Fi) (hf:fs[i]? =some f) (hi:i<39) (ino:Int) (hino:ino=i+1) (hd:f.d.length<=100000) (hvl:f.vs.length<=1000) (N:Nat) (hN:N<=100000) (hlt:N<f.d.length) (hm:N%128≠0) (hthere:N/128<f.vs.length):
 Calls prog 142 #[pt c.g 0,i6 ino,i6 (N:Int)] w (JA w c fs i f ((Sp.F.mk f.d f.vs.length).cut N)):=by
 have H:=ja h;have HF:=ja hf;have HI:=ja hino;have n1:¬(N:Int)<0:=by omega
 have n2:¬(463488:Int)<(N:Int):=by omega
 have c1: (N:Int)<(f.d.length:Int):=by omega
 obtain⟨r,hr⟩:∃r:Nat,(N:Int)%128=(r:Int):=⟨N%128,by omega⟩;obtain⟨last,Bt⟩:∃last:Nat,(N:Int)/128=(last:Int):=⟨N/128,by omega⟩;have Dv: ((r:Int)==0)=false:=by rw[beq_eq_false_iff_ne];omega
 have Ad:last<f.vs.length:=by omega
 clear h hf hino;go_enter func142,ntmps142;go_wp2_with fail
 refine(i' H.a i f HF.a om _ HI.a).mono ?_;rintro e w1 ⟨rfl,b1⟩;have H1:=ja (H.a.below b1);have y5:w1.cell? (ae f.g 5)=some (i6 (f.d.length:Int)):=(H1.a.fi i f HF.a).blk.cell 5;have B1:=ja b1;clear b1;go_wp2_with(at_builtin;refine bT ?_)
 have AI:w1.ownsRow w1.heap.size 3 1 (.slice none 0 0) 0 []:=World.ownsRow_nil _ _ _ _;refine aH rfl _ _ rfl rfl rfl sj underlying50 Sq.cI rfl dc AI rfl (by simp[Value.oneCell']) (by rw[aq];omega) om lh ?_;intro v2 w2 A0 AR;have Ae:Bw w1 w2:=bh.grown AR lh (λj e=>by cases e);have Bu:=ja A0;have H2:=ja (H1.a.below Ae);have B2:=ja (B1.a.trans (Ae.mono B1.a.size));clear A0 AR AI Ae y5;go_wp2_with fail
 have Au:Is .i64 w2 w2.heap.size v2 ([last].map Int.ofNat):=bw.aG Bu.a;have Av:=ep H2.a i f HF.a v2 [last] Au (by intro n hn;rw[List.mem_singleton.1 hn];omega) sj;refine Av.mono ?_;rintro e w3 ⟨u,ps,rfl,hp,Aw,b3⟩;clear Av Au;have A4:ps.map nl=[(last,Sp.blk f.d last)]:=by rw[Aw];unfold il;rw[List.filter_cons_of_pos (by simp;exact Ad)];rfl
 obtain⟨p,rfl⟩:∃p,ps=[p]:=List.length_eq_one_iff.1 (by have:=congrArg List.length A4;simpa using this);simp only[List.map_cons,List.map_nil,nl,List.cons.injEq,Prod.mk.injEq,and_true]at A4;obtain⟨A,cc,rfl,_,_,_⟩:=hp.open_;have R:=ja A4;have HP:=ja hp;have By:=ja (H2.a.below b3);have Ah:=ja (B2.a.trans (b3.mono B2.a.size));clear hp Aw b3 A4;go_upto_region 12 with fail
 obtain⟨W4,A7⟩:=ex (w3.alloc (.cells #[i6 (f.d.length:Int),.slice A 1 cc] 158));have dS:ak W4 w3.heap.size 158 [i6 (f.d.length:Int),.slice A 1 cc]:=by rw[<-A7];exact ak.new w3 _ _
 have b4:Bw w3 W4:=by rw[<-A7];exact bh.alloc lh _
 rw[A7];obtain⟨g10,A1⟩:=ex w3.heap.size;rw[A1]at dS|-;have y0:W4.cell? (ae g10 0)=some (i6 (f.d.length:Int)):=dS.cell 0;have y1:W4.cell? (ae g10 1)=some (.slice A 1 cc):=dS.cell 1;have C4:=ja (HP.a.up b4);have CC:=ja (By.a.below b4);have Ao:=ja (Ah.a.trans (b4.mono Ah.a.size));have Aa:=ja (show w.heap.size<=g10 by rw[<-A1];exact Ah.a.size);have Ax:=ja dS;clear A7 A1 dS b4;go_wp2_with fail
 refine(Sq.iD (.slice A 1 cc) f.d.length N [p] W4 C4.a (Sq.Ee _ _ om (by rw[R.a.1];unfold Sp.nb;omega) (λj hj=>by rw[R.a.2];exact Sq.mf _ _ _ (by rw[<-R.a.1];exact hj))) sj om (λq hq=>by rw[List.mem_singleton.1 hq,R.a.1];exact⟨by omega,hm,hlt⟩) (λe=>by cases e)).mono ?_;rintro e w5 ⟨u5,qs,v5,rfl,A2,B',A',J,b5,U,o⟩;obtain⟨q,rfl⟩:∃q,qs=[q]:=List.length_eq_one_iff.1 (by have:=congrArg List.length A2;simpa using this);simp only[List.map_cons,List.map_nil,nl,List.cons.injEq,Prod.mk.injEq,and_true]at A2 J;rw[R.a.1,R.a.2]at A2;rw[R.a.1]at J;obtain⟨g9,B0,k9,B3,Cd⟩:=B' q (List.mem_singleton.2 rfl);have B4:=k9.lt;have I:=Lib.hid (⟨A2,B0,B3,B4⟩: (q.n=last/\q.l=sW (Sp.blk f.d last) (N%128))/\q.v=.slice (some ⟨g9,0,none⟩) 128 128/\W4.heap.size<=g9/\g9<w5.heap.size);obtain⟨A5,c5,rfl,_,_,_⟩:=A'.open_;have A8:=J;obtain⟨A6,c6,rfl,_⟩:=A8;clear B0 k9 B3 Cd B4;have k5:=Ax.a.ext b5;have z0:=k5.cell 0;have z1:=k5.cell 1;have zf:=k5.frozen;have K5:=ja k5;have Co:=Lib.hid (⟨A',J,U,o,CC.a.below b5,Ao.a.trans (b5.mono Ao.a.size)⟩:fj w5 w5.heap.size (.slice A5 1 c5) [q]/\Is .i64 w5 w5.heap.size (.slice A6 1 c6) [(last:Int)]/\(∀b,(Value.slice A5 1 c5).ownBlock=some b->W4.heap.size<=b/\b<w5.heap.size)/\(∀b,(Value.slice A6 1 c6).ownBlock=some b->W4.heap.size<=b/\b<w5.heap.size)/\bD w5 c fs/\Bw w w5);clear A2 B' A' J b5 U o k5 y0 y1;go_upto_region 15 with fail
 obtain⟨W6,Aq⟩:=ex ((w5.setCell (ae g10 0) (i6 (N:Int))).setCell (ae g10 1) (.slice A5 1 c5));obtain⟨A',J,U,o,D0,B5⟩:=Co.out;have k6:=(K5.a.aC 0 (i6 (N:Int))).aC 1 (.slice A5 1 c5);have T6:=(af.setCell w5 g10 0 (i6 (N:Int))).trans (af.setCell _ g10 1 (.slice A5 1 c5)) (λ_ h=>.inl h);have Ar:Bw w W6:=by rw[<-Aq];exact(B5.setCell (p:=ae g10 0) Aa.a _).setCell (p:=ae g10 1) Aa.a _
 rw[Aq]at k6 T6|-;have y0:W6.cell? (ae g10 0)=some (i6 (N:Int)):=k6.cell 0;have y1:W6.cell? (ae g10 1)=some (.slice A5 1 c5):=k6.cell 1;have E1:=Ax.a.lt;have B6:=(fj.turn A' lh T6 (λb hb e=>by have:=(U b hb).1;omega) (λq' hq b hb e=>by rw[List.mem_singleton.1 hq,I.out.2.1]at hb;have e1:=Option.some.inj hb;have:=I.out.2.2.1;have e2:g9=b:=e1;omega)).more T6.size;have A8:Is .i64 W6 W6.heap.size (.slice A6 1 c6) [(last:Int)]:=bw.more (T6.fe J lh (λb hb e=>by have:=(o b hb).1;omega)) T6.size;have As:=Ao.a.size;have B7:∀b,(Value.slice A5 1 c5).ownBlock=some b->c.own b=0/\b<W6.heap.size:=λb hb=>⟨H.a.hi b (Nat.le_trans As (U b hb).1),Nat.lt_of_lt_of_le (U b hb).2 T6.size⟩;have B8:∀b,(Value.slice A6 1 c6).ownBlock=some b->c.own b=0/\b<W6.heap.size:=λb hb=>⟨H.a.hi b (Nat.le_trans As (o b hb).1),Nat.lt_of_lt_of_le (o b hb).2 T6.size⟩;have A3:=Sp.DO ⟨f.d,f.vs.length⟩ N (H.a.fi i f HF.a).ok;have B9:∀q'∈[q],∀b,q'.v.ownBlock=some b->c.own b=0/\b<W6.heap.size:=λq' hq b hb=>by rw[List.mem_singleton.1 hq,I.out.2.1]at hb;have e2:g9=b:=Option.some.inj hb;rw[<-e2];exact⟨H.a.hi g9 (Nat.le_trans As I.out.2.2.1),Nat.lt_of_lt_of_le I.out.2.2.2 T6.size⟩
 have BB:mb f.vs [q]=f.vs.set last q.v:=by show gQ f.vs q.n q.v=_;rw[I.out.1.1];unfold gQ;rw[if_pos Ad]
 have D5:Sp.nb N=last+1:=by unfold Sp.nb;omega
 have Ab:=iw (H.a.below Ar) i f HF.a hi ino HI.a (.slice A5 1 c5) (.slice A6 1 c6) [q] N B6 (by show Is .i64 W6 W6.heap.size (.slice A6 1 c6) [(q.n:Int)];rw[I.out.1.1];exact A8) (List.pairwise_singleton _ _) hvl sj (λk hk=>by
  obtain rfl:k=0:=(by simpa using hk);show q.n<=f.vs.length;rw[I.out.1.1];omega) B7 B8 B9 om (f.d.take N) (by rw[List.length_take];omega) ((f.vs.set last q.v).take (Sp.nb N)) (by rw[if_pos hlt,BB]) (λn v hv=>by
  rw[List.getElem?_take]at hv;split at hv
  ·rename_i hnn;by_cases BO:n=last
   ·subst BO;rw[List.getElem?_set_self Ad]at hv;refine .inr ⟨q,List.mem_singleton.2 rfl,Option.some.inj hv,?_⟩;rw[I.out.1.2];have BQ:=Sp.GP f.d N n om;rw[show N-128*n=N%128 by omega]at BQ;rcases BQ with h1|h1
    ·exact h1
    ·omega
   ·rw[List.getElem?_set_ne (λe=>BO e.symm)]at hv;exact .inl ⟨hv,(Sp.wF _ _ _ om).symm⟩
  ·cases hv) (by unfold Sp.F.cut at A3;rw[if_pos hlt]at A3;rw[List.length_take,List.length_set,Nat.min_comm];exact A3)
 have Bg:=ja Ab;have D3:=ja Ar;clear A' J U o D0 B5 k6 T6 Aq Ar B6 A8 B7 B8 B9 Ab z0 z1 zf;go_wp2_with fail
 refine Bg.a.mono ?_;rintro e w7 ⟨c',f',rfl,lk,ho,A9,S7⟩;have HZ:=Lib.hid (⟨lk,ho,A9,S7⟩:_/\_/\_/\_);clear lk ho A9 S7;go_wp2;go_ret;obtain⟨lk,ho,A9,S7⟩:=HZ.out;refine⟨c',f',rfl,?_,?_,ho,A9,(Step.below D3.a c).trans S7⟩
 ·rw[lk.vs];unfold Sp.F.cut;rw[if_pos hlt];show((f.vs.set last q.v).take (Sp.nb N)).length=_;rw[List.length_take,List.length_set,Nat.min_comm]
 ·unfold Sp.F.cut;rw[if_pos hlt];exact⟨lk.at_,lk.sum,lk.ty,lk.ar,lk.bN,lk.tick,lk.cU,rfl,lk.d⟩
end
end Co
end Go.Proofs.YtdhgejiacehpbaaGreatDoor
