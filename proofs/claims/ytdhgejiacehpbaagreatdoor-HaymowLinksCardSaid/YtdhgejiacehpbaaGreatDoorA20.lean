import Derived.Test.YtdhgejiacehpbaaGreatDoorA19
set_option maxRecDepth 100000
set_option maxHeartbeats 16000000
set_option linter.all false
namespace Go.Proofs.YtdhgejiacehpbaaGreatDoor
open Go.Proofs.Tryz
namespace Co
open Go.RowKit
open Dv (Md D)
attribute [local go_sem] Oper.semAt_some
section
variable {w w':World} {c:C} {fs:List Fi} {X:Nat->Prop} {m:Nat}
theorem nC.wide {n:Nat} (h:bD w c fs) (o:nC w c fs X):nC w c fs (λb=>X b\/(w.heap.size<=b/\b<n)) where
 own b e hlt:=e.elim (λe=>o.own b e hlt) λe=>h.hi b e.1
 gl b hb e:=e.elim (o.gl b hb) λe=>by have:=h.gl.lt;omega
 bad e:=e.elim o.bad λe=>by have:=h.bad.lt;omega
 aU b hb e:=e.elim (o.aU b hb) λe=>by have:=(h.aU.2 b hb).2;omega
 cU i f p hf hp:=by have I:=(h.fi i f hf).cU p hp;have J:=o.cU i f p hf hp;exact⟨λe=>e.elim J.1 λe=>by have:=I.blk.lt;omega,λe=>e.elim J.2.1 λe=>by have:=I.data.lt;omega,λe=>e.elim J.2.2 λe=>by have:=I.nodes.lt;omega⟩
 jW i f n v b hf hv hb e:=e.elim (o.jW i f n v b hf hv hb) λe=>by have R:=(h.fi i f hf).jW n v hv;have:=oM R.1 hb (by rw[Sp.aM];omega);omega
def Bd (a n q:Int) (s:Nat->Nat):List Value:=i6 a::i6 n::i6 q::(bJ s++List.replicate 8 zi)
theorem G6 (a n q:Int) (s:Nat->Nat) (V:World): (Instr.build 317 #[(0,i6 a),(1,i6 n),(2,i6 q),(3,.agg (bJ s).toArray),(4,.agg (List.replicate 8 zi).toArray)]).run prog V=.ok (.agg (Bd a n q s).toArray) V:=run_build V 317 _ _ kj
def pz (a n q:Int) (s:Nat->Nat):Ck.Ck:=⟨a,n,q,[(3,s 0),(4,s 1),(5,s 2),(6,s 3)],List.replicate 8 0⟩
theorem IE (s:Nat->Nat) (hs:∀k,s k<4294967296):Ck.Good (pz 1 2 7 s):=⟨rfl,rfl,λp hp=>by simp[pz]at hp;rcases hp with rfl|rfl|rfl|rfl<;>exact hs _⟩
theorem LX (s:Nat->Nat) (hs:∀k,s k<4294967296): (Ck.NA (pz 1 2 7 s)).length=128:=Crc.bH _ (by rw[Ck.AK _ (IE s hs)];decide)
theorem gW (h:bD w c fs) (hcm:c.k.m=pt m 0) (hu:c.k.used=List.replicate 8 zi) (s:Nat->Nat) (hmp:c.k.maps=bJ s) (hs:∀k,s k<4294967296) (hsq:c.k.seq=1) (hat:c.k.at_=7) (d:D) (hm:Md w X m d) (hq:d.qs=[]) (o:nC w c fs X) (hXl:∀b,X b->b<w.heap.size):
 Calls prog 159 #[pt c.g 0,i6 2] w λe w'=>e=.returned (i6 0)/\bD w' {c with k:={c.k with seq:=2,next:=2,chain:=.slice none 0 0}} fs/\(∃X' d',Md w' X' m d'/\(∀b,X' b->X b\/w.heap.size<=b)/\d'.qs=[])/\af (λb=>X b\/b=c.g) w w':=by
 have H:=jg h hm o hs hq hcm hXl;have BQ:c.k.used.length=8:=by rw[hu];rfl
 have Bg:c.k.maps.length=8:=by rw[hmp];rfl
 have Ah:w.cell? (ae c.g 189)=some (i6 1):=(h.cell _).trans ((zN h.len).trans (by rw[hsq]));have Ao:w.cell? (ae c.g 190)=some (i6 7):=(h.cell _).trans ((get_at h.len).trans (by rw[hat]));have Aq:w.rangeAt c.g 170 (bJ s):=by rw[<-hmp];exact h.core.bF 170 _ (by rw[Bg];exact si h.len)
 have Ar:w.rangeAt c.g 180 (List.replicate 8 zi):=by rw[<-hu];exact h.core.bF 180 _ (by rw[BQ];exact G9 h.len)
 have A':=h.core.lt;have A0: (prog.info? 317).map (·.size)=some (Bd 1 2 7 s).length:=kj;have As:∀v∈Bd 1 2 7 s,v.oneCell'=true:=by simp[Bd,bJ,zi,Value.oneCell',List.replicate]
 have Bt:=ja hsq;clear h hm o hs hq hcm hu hmp hsq hat hXl;go_enter func159,ntmps159;go_upto_region 1 with fail
 refine fu 20 [pt c.g 0,pt c.g 0,pt c.g 189,i6 1,i6 2,pt c.g 0,pt c.g 0,pt c.g 190,i6 7,pt c.g 0,pt c.g 0,pt c.g 170,.agg (bJ s).toArray,pt c.g 0,pt c.g 0,pt c.g 180,.agg (List.replicate 8 zi).toArray,.agg (Bd 1 2 7 s).toArray,undef,undef] [⟨18,19,5,27,317,i6 0::i6 0::i6 0::(dQ++List.replicate 8 zi),Bd 1 2 7 s,.agg (Bd 1 2 7 s).toArray⟩] kj rfl kj rfl ?_ ?_ ?_
 ·intro xv Av;simp only[List.mem_cons,List.not_mem_nil,or_false]at Av;rcases Av with rfl
  ·refine⟨by kernel_rfl,by kernel_rfl,rfl,by kernel_rfl,⟨17,by kernel_rfl,by simp,rfl⟩,?_,?_⟩
   ·intro a x K h;refine pj ?_;go_simp;exact h
   ·intro a x g K h1 h2 h3 h;refine pj ?_;refine wp_store_mid 317 (.tmp 5) (.tmp 27) rfl g 0 (Bd 1 2 7 s).toArray h1 h2 (by rw[List.size_toArray];exact h3) (A0) (all_oneCell_toArray As) ?_;exact h
 ·refine⟨vz [] [0],vz [0,10] [],vz [1,11] [],vx [2,12] [] λx hG=>cl hG A' Ah,vz [] [1],vz [] [0],vz [5,15] [],vz [6,16] [],vx [7,17] [] λx hG=>cl hG A' Ao,vz [] [0],vz [9,19] [],vz [10,20] [],?_,vz [] [0],vz [13,23] [],vz [14,24] [],?_,?_,vn,vn,trivial⟩
  ·intro _ a x hG hd hs K hK;have Bu:a.tmps.getD 21 undef=pt c.g 170:=hd 11 21 kj sj;clear hd hs;refine pj ?_;refine wp_load_mid 106 (.tmp 21) rfl c.g 170 Bu (bJ s) _ (λj u hu=>cl hG A' (Aq j u hu)) underlying106 rfl kj ?_;exact hK _ _ (λ_=>rfl) hG bh
  ·intro _ a x hG hd hs K hK;have By:a.tmps.getD 25 undef=pt c.g 180:=hd 15 25 kj sj;clear hd hs;refine pj ?_;refine wp_load_mid 107 (.tmp 25) rfl c.g 180 By (List.replicate 8 zi) _ (λj u hu=>cl hG A' (Ar j u hu)) underlying107 rfl kj ?_;exact hK _ _ (λ_=>rfl) hG bh
  ·intro _ a x hG hd hs K hK;have Aw:a.tmps.getD 13 undef=i6 1:=hd 3 13 kj sj;have E6:=aA Aw;have AR:a.tmps.getD 14 undef=i6 2:=hd 4 14 kj sj;have E7:=aA AR;have Ax:a.tmps.getD 18 undef=i6 7:=hd 8 18 kj sj;have E8:=aA Ax;have B':a.tmps.getD 22 undef=.agg (bJ s).toArray:=hd 12 22 kj sj;have E9:=aA B';have B0:a.tmps.getD 26 undef=.agg (List.replicate 8 zi).toArray:=hd 16 26 kj sj;have EC:=aA B0;clear hd hs;refine pj ?_;refine wp_build 317 #[(0,.tmp 13),(1,.tmp 14),(2,.tmp 18),(3,.tmp 22),(4,.tmp 26)] rfl (r:=.agg (Bd 1 2 7 s).toArray) (by rw[List.map_toArray];simp only[List.map_cons,List.map_nil,Act.eval,Aw,AR,Ax,B',B0];exact G6 1 2 7 s x) ?_;exact hK _ _ (λ_=>rfl) hG bh
 ·intro x hG;(iterate 18 rintro _ rfl);rintro _ ⟨A4,rfl,B1,A1⟩;replace A1:ak x A4 317 (Bd 1 2 7 s):=A1;simp only[ap];(try simp only[Exit.then]);have Aa:=H.a.below hG;have J:=H.b.below hG;have F1:CkW.bQ (pz 1 2 7 s)=Bd 1 2 7 s:=rfl;have A2:Ck.Good (pz 1 2 7 s):=⟨rfl,rfl,λp hp=>by simp[pz]at hp;rcases hp with rfl|rfl|rfl|rfl<;>exact H.d _⟩;have A8:Ck.aV (pz 1 2 7 s)=true:=(by simp[Ck.aV,pz,Ck.De,Ck.BM,Ck.vB]);have C4:=ja (CkW.tQ (pz 1 2 7 s) x A2 A8 Aa.gl.halves);have B2:=A1.range;have HG:=jd hG A1 Aa J;have LG:=ja B1;clear hG A1 Aa J B1 A2 A8 Ah Ao Aq Ar A';generalize x=w1 at*;(go_wp2_with(refine aw 317 (.tmp 5) rfl rfl A4 0 rfl (Bd 1 2 7 s) _ B2 underlying317 rfl A0 ?_));refine C4.a.mono ?_;rintro e w2 ⟨u,rfl,hu,b2⟩;obtain⟨Au,cu,rfl,_,_,_⟩:=hu.1.open_;have B3:=LX s H.d;have B4:=ja B3;obtain⟨el,B5⟩:=ex (Ck.NA (pz 1 2 7 s));rw[B5]at hu B4|-;clear B3 B5;have A5:=HG.c.below b2;have B6:=HG.d.below b2;have k2:=HG.b.ext b2;have R:=je (HG.a.trans (b2.mono HG.a.size)) k2 A5 B6 hu;have EK:=b2.size;have CC:A4<w2.heap.size:=k2.lt;have B7:=k2.range;have cm:w2.cell? (ae c.g 0)=some (pt m 0):=(A5.cell 0).trans (by show some c.k.m=_;rw[H.f]);have Cd:c.g<w2.heap.size:=A5.core.lt;clear A5 B6 k2 hu b2 B2;(go_upto_region 5 with fail);have B8:Bw w2 w2.drew:=bh.drew;refine aQ 9 7 [(ez (pt c.g 0)),(ez (pt c.g 0)),(ez (pt c.g 0)),(ez (pt m 0)),(ez (.agg (Bd 1 2 7 s).toArray)),(ez (i6 1)),(ez (.slice Au el.length cu))]
   (λq_=>Bw w2 q_) kj rfl dc kj kj ?_ ?_ ?_ ?_
  ·exact B8
  ·exact sv
  ·refine⟨rz [] [0],rz [0,36] [],rz [1,37] [],rx [2,38] [] λx hG=>cl hG Cd cm,?_,?_,rz [] [6],trivial⟩
   ·intro a x hG hd hs K hK;have h5:_=_:=hs 5 kj;clear hd hs;refine pj ?_;refine wp_load_mid 317 (.tmp 5) rfl A4 0 h5 (Bd 1 2 7 s) _ (λj u hu=>cl hG CC (B7 j u hu)) underlying317 rfl A0 ?_;exact hK _ _ rfl hG bh
   ·intro a x hG hd hs K hK;have F2:_=_:=hd 4 40 kj;clear hd hs;refine pj ?_;go_simp;refine(CkW.CO (pz 1 2 7 s) x rfl rfl).mono ?_;rintro e w' ⟨rfl,B9⟩;exact hK _ _ rfl (hG.trans (B9.mono hG.size)) B9
  ·intro x hG;(iterate 7 rintro _ rfl);simp only[ap];rw[show List.range' 7 (9-7)=[7,8]from rfl,wpOps_cons];have F3:=HG.a.size;have A9:Bs x x.heap.size (.slice Au el.length cu) el:=(R.e.1.ext lh hG).more hG.size;have J:=R.d.below hG;have BB:∀b,(Value.slice Au el.length cu).ownBlock=some b->¬X b:=λb e hx=>(by have:=R.e.2 b e;have:=H.g b hx;omega);have Co:=ja (Dv.sf J (by rw[H.e];decide) _ _ B4.a A9 BB);have HX:=jc (R.a.trans (hG.mono R.a.size)) (R.c.below hG) J;clear hG B8 A9 J BB;refine pj ?_;go_simp;refine Co.a.mono ?_;rintro e w4 ⟨rfl,d4,A6,D0⟩;have Ab:=HX.b.rD A6.2.2.2 (nC.below H.a H.c);have A3:=HX.c.bA A6;have D3:w4.cell? (ae c.g 0)=some (pt m 0):=(Ab.cell 0).trans (by show some c.k.m=_;rw[H.f]);have T4:af X w w4:=(af.aj (X:=X) HX.a).trans A6.2.2.2 λ_ e=>.inl e;have H4:=jc Ab A3 T4;have F4:=HX.a.size;have D5:=ja (Dv.py A3);clear Ab A3 T4 A6 D0 cm;dsimp only;rw[wpOps_cons];refine pj ?_;go_simp;unfold wpOps;simp only[Exit.then];(go_wp2_with fail);refine D5.a.mono ?_;rintro e w5 ⟨rfl,A7⟩;have I:=H4.a.rD A7.2.2.2 (nC.wide (n:=w4.heap.size) HX.b (nC.below H.a H.c)|>λo=>⟨λb e hlt=>by
    by_cases h1:b<x.heap.size
    ·exact o.own b e h1
    ·exact HX.b.hi b om,o.gl,o.bad,o.aU,o.cU,o.jW⟩)
   have AI:=H4.b.bA A7;have Ad:=I.set (c':={c with k:={c.k with seq:=2}}) (ID I.len 2) ⟨I.len.aF,I.len.av,I.len.maps,I.len.used,I.len.dH,I.len.dG⟩ rfl rfl rfl rfl rfl rfl rfl rfl rfl rfl;have Ae:=Ad.set (c':={c with k:={c.k with seq:=2,next:=2}}) (uB Ad.len 2) ⟨I.len.aF,I.len.av,I.len.maps,I.len.used,I.len.dH,I.len.dG⟩ rfl rfl rfl rfl rfl rfl rfl rfl rfl rfl;have BO:=Ae.set (c':={c with k:={c.k with seq:=2,next:=2,chain:=.slice none 0 0}}) (qK Ae.len (.slice none 0 0)) ⟨I.len.aF,I.len.av,I.len.maps,I.len.used,I.len.dH,I.len.dG⟩ rfl rfl rfl rfl rfl rfl rfl rfl rfl rfl;have EX:w5.cell? (ae c.g 189)=some (i6 1):=(I.cell _).trans ((zN I.len).trans (by rw[Bt.a]));have F':w5.cell? (ae c.g 191)=some (i6 c.k.next):=(I.cell _).trans (lZ I.len);have F0:w5.cell? (ae c.g 192)=some c.k.chain:=(I.cell _).trans (jV I.len);have f189:=I.core.frozen 189;have f191:=I.core.frozen 191;have f192:=I.core.frozen 192;have T5:af X w w5:=H4.c.trans A7.2.2.2 λb e=>e.imp id λe=>(by omega);have HZ:=jd BO AI T5 (show c.g<w5.heap.size from I.core.lt);clear I AI Ad Ae BO T5 A7 D3;go_wp2;go_ret;have TG:af (· =c.g) w5 (((w5.setCell (ae c.g 189) (i6 2)).setCell (ae c.g 191) (i6 2)).setCell (ae c.g 192) (.slice none 0 0)):=((af.setCell w5 c.g 189 _).trans (af.setCell _ c.g 191 _) λ_ e=>.inl e).trans (af.setCell _ c.g 192 _) λ_ e=>.inl e;have E1:=H.a.core.lt;have E4:¬X c.g:=λe=>(by have h0:=H.c.own _ e E1;rw[H.a.o1]at h0;cases h0);have E5:m≠c.g:=(by obtain⟨vs,hk,_⟩:=H.b.blk;exact aR hk H.a.core dc);have F5:=HX.a.size;have AR:=H4.c.size;refine⟨rfl,HZ.a,⟨_,_,HZ.b.bU TG (λb U _ e=>?_),λb U=>?_,rfl⟩,?_⟩
   ·subst e;rcases U with((U|U)|U)|U
    ·exact E4 U
    ·omega
    ·omega
    ·exact E5 U.symm
   ·rcases U with(U|U)|U
    ·exact .inl U
    ·exact .inr om
    ·exact .inr om
   ·exact(HZ.c.mono λb e=>.inl e).trans TG λb e=>.inl (.inr e)
end
end Co
namespace Co
open Go.RowKit
section
variable {w w':World} {c:C} {fs:List Fi} {f:Fi}
theorem bD.oW (h:bD w c fs) (T:af (· =c.aB) w w') {cL:KV} (hm:ay w' prog 3 c.aB cL):bD w' {c with cL:=cL} fs:=by
 have n0:∀b,c.own b≠4->¬b=c.aB:=λb I e=>I (by rw[e];exact h.o4);exact{
  core:=T.blk h.core (n0 _ (by rw[h.o1];decide))
  len:=⟨h.len.aF,h.len.av,h.len.maps,h.len.used,h.len.dH,h.len.dG⟩
  files:=T.map h.files (n0 _ (by rw[h.o2];decide))
  gone:=T.map h.gone (n0 _ (by rw[h.o3];decide))
  aB:=hm
  bad:=T.map h.bad (n0 _ (by rw[h.ob];decide))
  o1:=h.o1
  o2:=h.o2
  o3:=h.o3
  o4:=h.o4
  ob:=h.ob
  hi:=λb I=>h.hi b (Nat.le_trans T.size I)
  fi:=λi g J=>(h.fi i g J).bU T (λb e _=>by rw[e,h.o4];omega) (λ_ _=>rfl)
  aU:=⟨(T.fe h.aU.1 lh λg J=>n0 g (by rw[(h.aU.2 g J).1];decide)).more T.size,λb hb2=>⟨(h.aU.2 b hb2).1,Nat.lt_of_lt_of_le (h.aU.2 b hb2).2 T.size⟩⟩
  gl:=h.gl.bU T (λb e _=>by rw[e,h.o4];decide) (λ_ _=>rfl)
  gM:=h.gM}
theorem bD.Ji (h:bD w c fs) {v:Value} {cs:List Value} (hu:bw w w.heap.size 2 v (cs.length/2) cs) (ho:∀b,v.ownBlock=some b->c.own b=0/\b<w.heap.size):bD (w.setCell (ae c.g 188) v) {c with k:={c.k with aU:=v,nQ:=cs}} fs:=by
 have T:=af.setCell w c.g 188 v;have n0:∀b,c.own b≠1->¬b=c.g:=λb I e=>I (by rw[e];exact h.o1);exact{
  core:=Fh h.len v cs▸h.core.aC 188 v
  len:=⟨h.len.aF,h.len.av,h.len.maps,h.len.used,h.len.dH,h.len.dG⟩
  files:=T.map h.files (n0 _ (by rw[h.o2];decide))
  gone:=T.map h.gone (n0 _ (by rw[h.o3];decide))
  aB:=T.map h.aB (n0 _ (by rw[h.o4];decide))
  bad:=T.map h.bad (n0 _ (by rw[h.ob];decide))
  o1:=h.o1
  o2:=h.o2
  o3:=h.o3
  o4:=h.o4
  ob:=h.ob
  hi:=λb I=>h.hi b (Nat.le_trans T.size I)
  fi:=λi g J=>(h.fi i g J).bU T (λb e _=>by rw[e,h.o1];omega) (λ_ _=>rfl)
  aU:=⟨(T.fe hu lh λg J=>n0 g (by rw[(ho g J).1];decide)).more T.size,λb hb2=>⟨(ho b hb2).1,Nat.lt_of_lt_of_le (ho b hb2).2 T.size⟩⟩
  gl:=h.gl.bU T (λb e _=>by rw[e,h.o1];decide) (λ_ _=>rfl)
  gM:=h.gM}
theorem Fg (h:c.eI) (ms:List Value) (hs:ms.length=8):mS c.cells 170 ms=C.cells {c with k:={c.k with maps:=ms}}:=by
 have e:c.cells=(c.k.m::i6 c.k.g1::i6 c.k.g2::i6 c.k.g3::i6 c.k.g4::c.k.cache::(c.now++[.map (some c.k.aY)]))++(c.k.maps++(Value.map (some c.k.bad)::i6 c.tick::(c.k.used++[c.k.aU,i6 c.k.seq,i6 c.k.at_,i6 c.k.next,c.k.chain,.bool false,i6 c.age,i6 c.k.aT]))):=by unfold C.cells C.tail;simp only[List.cons_append,List.append_assoc,List.nil_append]
 have I: (c.k.m::i6 c.k.g1::i6 c.k.g2::i6 c.k.g3::i6 c.k.g4::c.k.cache::(c.now++[Value.map (some c.k.aY)])).length=170:=by simp only[List.length_cons,List.length_append,List.length_nil,cB h]
 rw[e];unfold mS;rw[hs,<-I,List.take_left',List.drop_append,List.drop_eq_nil_of_le om,List.nil_append,Nat.add_sub_cancel_left,List.drop_append,h.maps,List.drop_eq_nil_of_le (by rw[h.maps];exact Nat.le_refl _),List.nil_append,Nat.sub_self,List.drop_zero]
 ·unfold C.cells C.tail;simp only[List.cons_append,List.append_assoc,List.nil_append];rfl
 ·rfl
theorem nC.plain {X:Nat->Prop} (hw:f.cU=none) (hv:f.vs=[]) (h0:∀b,X b->b<w.heap.size->c.own b=0) (h1:∀b,b<=1->¬X b) (h2:¬X c.k.bad) (h3:∀b,c.k.aU.ownBlock=some b->¬X b):nC w c [f] X where
 own:=h0
 gl:=h1
 bad:=h2
 aU:=h3
 cU i f' p hf hp:=by
  cases i with
  |succ i=>simp at hf
  |zero=>obtain rfl:f=f':=Option.some.inj hf;rw[hw]at hp;cases hp
 jW i f' n v b hf hx:=by
  cases i with
  |succ i=>simp at hf
  |zero=>obtain rfl:f=f':=Option.some.inj hf;rw[hv]at hx;simp at hx
theorem tS {p:W} (h:p.at_=2):lu 3 4 5 6 (some p)=[3,4,5,6,2]:=by show app (app (app (app (app [] 3) 4) 5) 6) p.at_=_;rw[h];rfl
def Ns (B:Nat) (p:W) (age:Int) (u:Value) (V:World):Prop:=
 ∃g l1 l2 l3 l4 l5,u=pt g 0/\ak V g 155 (Fi.of g l1 l2 l3 l4 l5 p age).cells/\ay V prog 3 l1 []/\ay V prog 3 l2 []/\ay V prog 3 l3 []/\ay V prog 3 l4 []/\ay V prog 3 l5 []/\
  B<=l2/\l2<l3/\l3<l4/\l4<l5/\l5<g/\g<l1
theorem Ns.ext {B:Nat} {p:W} {age:Int} {u:Value} {V V':World} (h:Ns B p age u V) (hb:Bw V V'):Ns B p age u V':=by obtain⟨g,l1,l2,I,J,l5,R,U,j,o,h4,h5,h6,h7⟩:=h;exact⟨g,l1,l2,I,J,l5,R,U.ext hb,j.ext hb,o.ext hb,h4.ext hb,h5.ext hb,h6.ext hb,h7⟩
def eO (c:C) (g l1 l2 l3 l4 l5:Nat):Nat->Nat:=λb=>if b=g then 10 else if b=l1 then 11 else if b=l2 then 12 else if b=l3 then 13 else if b=l4 then 14 else if b=l5 then 15 else c.own b
theorem bD.sP (h:bD w c [f]) {p:W} {age:Int} {w0:World} {g l1 l2 l3 l4 l5:Nat} (hb:Bw w w0) (hk:ak w0 g 155 (Fi.of g l1 l2 l3 l4 l5 p age).cells) (m1:ay w0 prog 3 l1 []) (m2:ay w0 prog 3 l2 []) (m3:ay w0 prog 3 l3 []) (m4:ay w0 prog 3 l4 []) (m5:ay w0 prog 3 l5 [])
 (hl:w.heap.size<=l2/\l2<l3/\l3<l4/\l4<l5/\l5<g/\g<l1) (hW:gX w c.own p) (T:af (· =c.files) w0 w') (hm:ay w' prog 3 c.files (kC [Fi.of g l1 l2 l3 l4 l5 p age])):
 bD w' {c with own:=eO c g l1 l2 l3 l4 l5} [Fi.of g l1 l2 l3 l4 l5 p age]/\∀b,b<w.heap.size->eO c g l1 l2 l3 l4 l5 b=c.own b:=by
 have I:∀b,b<w.heap.size->eO c g l1 l2 l3 l4 l5 b=c.own b:=λb hb=>by unfold eO;rw[if_neg om,if_neg om,if_neg om,if_neg om,if_neg om,if_neg om]
 have J:af (· =c.files) w w':=(af.aj (X:=(· =c.files)) hb).trans T λ_ e=>.inl e;have R:=h.files.lt;have o:=m1.lt;have h2:=T.size;refine⟨h.qv J (λb e _=>.inl e) rfl I (λb hbb=>?_) hm (λi f' hf'=>?_) (by show 1<=40;decide),I⟩
 ·show eO c g l1 l2 l3 l4 l5 b=0;unfold eO;rw[if_neg om,if_neg om,if_neg om,if_neg om,if_neg om,if_neg om];exact h.hi b (oa J.size)
 ·cases i with
  |succ i=>simp at hf'
  |zero=>
   obtain rfl:Fi.of g l1 l2 l3 l4 l5 p age=f':=Option.some.inj hf';exact{
    blk:=T.blk hk (by show¬g=c.files;omega)
    cA:=T.map m1 (by show¬l1=c.files;omega)
    fresh:=T.map m2 (by show¬l2=c.files;omega)
    bA:=T.map m3 (by show¬l3=c.files;omega)
    lost:=T.map m4 (by show¬l4=c.files;omega)
    nodes:=T.map m5 (by show¬l5=c.files;omega)
    o0:=by show eO c g l1 l2 l3 l4 l5 g=10;unfold eO;rw[if_pos rfl]
    o1:=by show eO c g l1 l2 l3 l4 l5 l1=11;unfold eO;rw[if_neg om,if_pos rfl]
    o2:=by show eO c g l1 l2 l3 l4 l5 l2=12;unfold eO;rw[if_neg om,if_neg om,if_pos rfl]
    o3:=by show eO c g l1 l2 l3 l4 l5 l3=13;unfold eO;rw[if_neg om,if_neg om,if_neg om,if_pos rfl]
    o4:=by show eO c g l1 l2 l3 l4 l5 l4=14;unfold eO;rw[if_neg om,if_neg om,if_neg om,if_neg om,if_pos rfl]
    o5:=by show eO c g l1 l2 l3 l4 l5 l5=15;unfold eO;rw[if_neg om,if_neg om,if_neg om,if_neg om,if_neg om,if_pos rfl]
    cU:=λq U=>by obtain rfl:p=q:=Option.some.inj U;exact hW.bU J (λb e _=>by rw[e,h.o2];decide) I
    jW:=λn v j=>by simp[Fi.of]at j
    ok:=Sp.IK}
end
end Co
namespace Co
open Go.RowKit
open Dv (Md D)
section
variable {w w':World} {c:C} {fs:List Fi} {f:Fi} {X:Nat->Prop} {d:D} {m:Nat}
def xS (d:D) (b:Nat):Prop:=b=d.g\/b=d.b\/b=d.nm\/b=d.fm\/d.pv.ownBlock=some b
theorem Md.least (h:Md w X m d):Md w (xS d) m d:={
 blk:=h.blk
 dev:={h.dev with xg:=.inl rfl,xb:=.inr (.inl rfl),xn:=.inr (.inr (.inl rfl)),xf:=.inr (.inr (.inr (.inl rfl))),xp:=λ_ e=>.inr (.inr (.inr (.inr e)))}
 n:=h.n
 mx:=λe=>h.mx (by
  rcases e with e|e|e|e|e
  ·rw[e];exact h.dev.xg
  ·rw[e];exact h.dev.xb
  ·rw[e];exact h.dev.xn
  ·rw[e];exact h.dev.xf
  ·exact h.dev.xp _ e)}
theorem Md.me (h:Md w X m d) {b:Nat} (e:xS d b):X b:=by
 rcases e with e|e|e|e|e
 ·rw[e];exact h.dev.xg
 ·rw[e];exact h.dev.xb
 ·rw[e];exact h.dev.xn
 ·rw[e];exact h.dev.xf
 ·exact h.dev.xp _ e
theorem Md.pF (h:Md w X m d) {b:Nat} (e:xS d b):b<w.heap.size:=by
 rcases e with e|e|e|e|e
 ·rw[e];exact h.dev.blk.lt
 ·obtain⟨xs,I,_⟩:=h.dev.vH;rw[e];exact I.lt
 ·obtain⟨J,I,_⟩:=h.dev.cX;rw[e];exact I.lt
 ·rw[e];exact h.dev.cQ.lt
 ·exact(h.dev.gE.lt b e).2
theorem Md.type (h:Md w X m d) {t ty:Nat} {cs:List Value} (hk:ak w t ty cs) (h1:ty≠121) (h2:ty≠253) (h3:ty≠255) (h4:ty≠129):¬xS d t/\t≠m:=by
 constructor
 ·rintro(e|e|e|e|e)
  ·exact aR hk h.dev.blk h1 e
  ·obtain⟨xs,I,_⟩:=h.dev.vH;exact aR hk I h2 e
  ·obtain⟨J,I,_⟩:=h.dev.cX;exact aP I hk e.symm
  ·exact aP h.dev.cQ hk e.symm
  ·exact Dv.aO h.dev.gE hk h3.symm t e rfl
 ·rintro rfl;obtain⟨vs,I,_⟩:=h.blk;exact aR hk I h4 rfl
theorem sF.type {ob N t ty:Nat} {x:Co.X} {m:List Im.Sl} {V V':World} {cs:List Value} (h:sF ob x m N V) (hk:ak V t ty cs) (T:af (· =t) V V') (h1:ty≠322) (h2:ty≠153) (h3:ty≠260):sF ob x m N V':=by obtain⟨bv,s,p,o,I,J,R,q4,q5,U,j,q8⟩:=h;exact⟨bv,s,p,o,T.blk I (aR I hk h1.symm),Dv.aJ J T λb e=>Dv.aO J hk h2.symm b e,T.blk R (aR R hk h3.symm),q4,q5,T.map U (aP U hk),T.map j (aP j hk),q8⟩
def Io (ob:Nat) (x:Co.X) (m:List Im.Sl) (N:Nat) (bv:Value) (s:Nat->Nat) (p:W) (sm:Nat) (V:World):Prop:=
 ak V ob 322 (bV bv (ImW.ag (m.set 1 ⟨2,sm,(Im.at_ m 1).v⟩)) (bJ s))/\V.ownsRow N 153 1 bv 1 [pt p.b 0]/\ak V p.b 260 p.cells/\p.at_=2/\p.x=x/\
  ay V prog 3 p.data []/\ay V prog 3 p.nodes []/\N<=p.b/\N<=p.data/\N<=p.nodes/\p.sum=(sm:Int)/\sm<4294967296/\∀k,s k<4294967296
theorem Io.turn {ob N:Nat} {x:Co.X} {m:List Im.Sl} {bv:Value} {s:Nat->Nat} {p:W} {sm:Nat} {V V':World} {Y:Nat->Prop} (h:Io ob x m N bv s p sm V) (ht:af Y V V') (ho:¬Y ob) (hN:∀b,N<=b->¬Y b):Io ob x m N bv s p sm V':=by obtain⟨o,R,h3,h4,h5,h6,h7,U,j,I,J⟩:=h;exact⟨ht.blk o ho,Dv.aJ R ht λb e=>hN b (R.lt b e).1,ht.blk h3 (hN _ U),h4,h5,ht.map h6 (hN _ j),ht.map h7 (hN _ I),U,j,I,J⟩
structure Cy (w:World) (X:Nat->Prop) (m ob:Nat) (x0:Co.X) (sl:List Im.Sl) (b:Bool) (x:World):Prop where
 pre:b=false->Bw w x
 turn:af (λg=>X g\/g=ob) w x
 md:b=true->∃d',Md x (xS d') m d'/\d'.qs=[]/\(∀g,xS d' g->X g\/w.heap.size<=g)/\∀g,xS d' g->X g\/∃t cs,ak x g t cs
 out:b=true->∃N,w.heap.size<=N/\sF ob x0 sl N x
theorem Cy.below {ob:Nat} {x0:Co.X} {sl:List Im.Sl} {b:Bool} {x x':World} (h:Cy w X m ob x0 sl b x) (hb:Bw x x'):Cy w X m ob x0 sl b x' where
 pre e:=(h.pre e).trans (hb.mono (h.pre e).size)
 turn:=h.turn.trans (af.aj (X:=λg=>X g\/g=ob) hb) λ_ e=>.inl e
 md e:=by obtain⟨R,I,J,U,j⟩:=h.md e;exact⟨R,I.below hb,J,U,λg o=>(j g o).imp id λ⟨t,cs,hk⟩=>⟨t,cs,hk.ext hb⟩⟩
 out e:=by obtain⟨N,I,J⟩:=h.out e;exact⟨N,I,J.turn (Y:=λ_=>False) (af.aj hb) id λ_ _=>id⟩
theorem Cy.type {ob t ty:Nat} {x0:Co.X} {sl:List Im.Sl} {x x':World} {cs:List Value} (h:Cy w X m ob x0 sl true x) (hk:ak x t ty cs) (T:af (· =t) x x') (hw:w.heap.size<=t) (h1:ty≠322) (h2:ty≠153) (h3:ty≠260) (h4:ty≠121) (h5:ty≠253) (h6:ty≠255) (h7:ty≠129):Cy w X m ob x0 sl true x' where
 pre e:=by cases e
 turn:=h.turn.trans T λb e=>.inr (by rw[e];exact hw)
 md _:=by obtain⟨j,I,J,o,q4⟩:=h.md rfl;obtain⟨R,n2⟩:=Md.type I hk h4 h5 h6 h7;exact⟨j,I.bU T (λb hb _ e=>by have e:b=t:=e;subst e;exact hb.elim R n2),J,o,λg U=>(q4 g U).imp id λ⟨t',cs',hk'⟩=>⟨t',cs',T.blk hk' λe=>R (by rw[<-show g=t from e];exact U)⟩⟩
 out _:=by obtain⟨N,I,J⟩:=h.out rfl;exact⟨N,I,J.type hk T h1 h2 h3⟩
def qm (B:Nat) (X:Nat->Prop) (ob i:Nat) (a:Act) (x x':World):Prop:=(i≠17->i≠22->Bw x x')/\(i=17->af (λg=>X g\/g=ob) x x')/\(i=22->∃t cs,a.tmps.getD 6 undef=pt t 0/\ak x t 325 cs/\af (· =t) x x'/\∃A0 n0 c0 A c,ak x' t 325 [.slice A0 n0 c0,i6 7,i6 2,.slice A 1 c]/\x'.ownsRow B 3 1 (.slice A 1 c) 1 [i6 0])
theorem qm.of {B ob i:Nat} {a:Act} {x x':World} (h1:i≠17) (h2:i≠22) (hb:Bw x x'):qm B X ob i a x x':=⟨λ_ _=>hb,λe=>absurd e h1,λe=>absurd e h2⟩
theorem qm.row {ob i B n:Nat} {a:Act} {x x':World} {v:Value} {xs:List Value} (h:qm B X ob i a x x') (ho:x.ownsRow B 3 1 v n xs) (hB:∀b,B<=b->¬X b/\b≠ob):x'.ownsRow B 3 1 v n xs:=by
 by_cases I:i=17
 ·exact Dv.aJ ho (h.2.1 I) λb e=>λe2=>by have:=hB b (ho.lt b e).1;exact e2.elim this.1 this.2
 ·by_cases J:i=22
  ·obtain⟨t,cs,_,R,T,_⟩:=h.2.2 J;exact Dv.aJ ho T λb e=>Dv.aO ho R dc b e
  ·exact aD ho (h.1 I J)
def Lh (B:Nat) (v:Value) (V:World):Prop:=∃A0 n0 c0 A c,v=.agg #[.slice A0 n0 c0,i6 7,i6 2,.slice A 1 c]/\V.ownsRow B 3 1 (.slice A 1 c) 1 [i6 0]
theorem Lh.row {ob i B:Nat} {a:Act} {x x':World} {v:Value} (h:qm B X ob i a x x') (hq:Lh B v x) (hB:∀b,B<=b->¬X b/\b≠ob):Lh B v x':=by obtain⟨I,n0,J,A,c,R,U⟩:=hq;exact⟨I,n0,J,A,c,R,h.row U hB⟩
def Mt (B:Nat) (b:Bool) (u:Value) (V:World):Prop:=∃t,u=pt t 0/\B<=t/\(b=false->ak V t 325 [.slice none 0 0,i6 0,i6 0,.slice none 0 0])/\(b=true->∃A0 n0 c0 A c,ak V t 325 [.slice A0 n0 c0,i6 7,i6 2,.slice A 1 c]/\V.ownsRow B 3 1 (.slice A 1 c) 1 [i6 0])
theorem Mt.Ht {B ob i:Nat} {a:Act} {f:Nat->Bool} {x x':World} (h:qm B X ob i a x x') (hv:Mt B (f 22) (a.tmps.getD 6 undef) x) (hB:∀b,B<=b->¬X b/\b≠ob):Mt B (decide (22=i)||f 22) (a.tmps.getD 6 undef) x':=by
 obtain⟨t,j,U,h3,h4⟩:=hv;by_cases hi:i=22
 ·subst hi;obtain⟨t',cs,I,_,_,o⟩:=h.2.2 rfl;rw[j]at I;obtain rfl:t=t':=(by injection I with I;injection I with I;injection I);exact⟨t,j,U,λe=>by simp at e,λ_=>o⟩
 ·have e: (decide (22=i)||f 22)=f 22:=(by rw[decide_eq_false (λe=>hi e.symm),Bool.false_or]);rw[e];have J:∀{cs:List Value},ak x t 325 cs->ak x' t 325 cs:=λJ=>by
   by_cases R:i=17
   ·exact(h.2.1 R).blk J λe=>e.elim (hB t U).1 (hB t U).2
   ·exact J.ext (h.1 R hi)
  refine⟨t,j,U,λe=>J (h3 e),λe=>?_⟩;obtain⟨A0,n0,c0,A,c,I,o⟩:=h4 e;exact⟨A0,n0,c0,A,c,J I,h.row o hB⟩
end
end Co
namespace Co
open Go.RowKit
attribute [local go_sem] Oper.semAt_some
section
variable {w w':World} {c:C} {f:Fi}
structure Jf (q wb wo ob oo:Nat) (pl oc ws:List Value) (pb:Nat) (V:World):Prop where
 k1:ak V q 266 pl
 k2:ak V (q+1) 322 oc
 kw:∀(j:Nat) u,ws[j]? =some u->V.cell? (ae wb (wo+j))=some u
 ko:V.cell? (ae ob oo)=some (pt pb 0)
 lw:wb<V.heap.size
 lo:ob<V.heap.size
theorem Jf.turn {q wb wo ob oo pb:Nat} {pl oc ws:List Value} {V V':World} {X:Nat->Prop} (h:Jf q wb wo ob oo pl oc ws pb V) (T:af X V V') (h1:¬X q) (h2:¬X (q+1)) (h3:¬X wb) (h4:¬X ob):Jf q wb wo ob oo pl oc ws pb V':=⟨T.blk h.k1 h1,T.blk h.k2 h2,λj u hu=>(T.cell (p:=ae wb (wo+j)) h.lw h3).trans (h.kw j u hu),(T.cell (p:=ae ob oo) h.lo h4).trans h.ko,Nat.lt_of_lt_of_le h.lw T.size,Nat.lt_of_lt_of_le h.lo T.size⟩
theorem Jf.below {q wb wo ob oo pb:Nat} {pl oc ws:List Value} {V V':World} (h:Jf q wb wo ob oo pl oc ws pb V) (hb:Bw V V'):Jf q wb wo ob oo pl oc ws pb V':=h.turn (X:=λ_=>False) (af.aj hb) id id id id
def OB (w:World) (c ch:C) (p:W) (q wb wo ob oo:Nat) (pl oc ws:List Value) (V:World):Prop:=∃g l1 l2 l3 l4 l5,∃own:Nat->Nat,bD V {ch with cL:=[],own:=own} [Fi.of g l1 l2 l3 l4 l5 p (c.age+1)]/\(∀b,b<w.heap.size->own b=c.own b)/\Jf q wb wo ob oo pl oc ws p.b V/\ay V prog 3 c.k.aY [((1:Int),pt p.b 0)]/\gX V own p/\af (λb=>c.own b≠0\/b=c.k.aY) w V
def NI (V0:World) (cd:C) (g:Nat) (sl mp:List Value) (b1 b2:Bool) (x:World):Prop:=ak x g 110 (C.cells {cd with aF:=cond b1 sl cd.aF,k:={cd.k with maps:=cond b2 mp cd.k.maps}})/\af (· =g) V0 x
def MQ (w:World) (c:C) (p:W) (sl mp:List Value) (e:Ending) (w':World):Prop:=
 ∃c' us,∃g l1 l2 l3 l4 l5,e=.returned (.tuple #[])/\bD w' c' [Fi.of g l1 l2 l3 l4 l5 p (c.age+1)]/\c'={c with k:={c.k with maps:=mp,aT:=c.k.aT+1,aU:=us,nQ:=dW 5},aF:=sl,age:=c.age+1,cL:=[],own:=c'.own}/\
  (∀b,b<w.heap.size->c'.own b=c.own b)/\af (λb=>c.own b≠0\/b=c.k.aY) w w'/\∀b,us.ownBlock=some b->w.heap.size<=b
theorem zp (h:bD w c [f]) (hwn:f.cU=none) (hvs:f.vs=[]) (hgn:c.b_=[]) (hg:c.k.g1=20/\c.k.g2=2/\c.k.g3=1/\c.k.g4=4) (hb:ay w prog 3 c.k.aY []) (hbo:c.own c.k.aY=0) (hbb:c.k.aY≠c.k.bad) (hbg:2<=c.k.aY) (hus:∀b,c.k.aU.ownBlock=some b->b≠c.k.aY)
 (hcm:0<=c.k.aT/\c.k.aT<=1000) (hage:0<=c.age/\c.age<=1000) (wb wo wc:Nat) (A1 A2 A3:Option Addr) (c1 c2 c3:Nat) (hwk:∀(j:Nat) u,[i6 1,.slice A1 0 c1,.slice A2 0 c2,.slice A3 0 c3][j]? =some u->w.cell? (ae wb (wo+j))=some u) (hwb:wb<w.heap.size/\c.own wb=0/\wb≠c.k.aY) (vs ve:Value)
 (ob oo oc:Nat) (p:W) (hob:w.cell? (ae ob oo)=some (pt p.b 0)) (hol:ob<w.heap.size/\c.own ob=0/\ob≠c.k.aY) (hp:gX w c.own p) (hpd:p.b≠c.k.aY/\p.data≠c.k.aY/\p.nodes≠c.k.aY) (ty ar bN:Int) (hpx:p.x=⟨ty,ar,bN,0,0⟩) (hpa:p.at_=2)
 (sl:List Value) (hsl:sl.length=120) (hs1:∀v∈sl,v.oneCell'=true) (s:Nat->Nat):
 Calls prog 213 #[pt c.g 0,.agg #[.slice (some ⟨wb,wo,none⟩) 1 wc,vs,ve],.agg (bV (.slice (some ⟨ob,oo,none⟩) 1 oc) sl (bJ s)).toArray] w (MQ w c p sl (bJ s)):=by
 have H:=je h hb hp hwk hob;have HC:=jh hwn hvs hgn hg hbo hbb hbg hus;have HS:=jg hwb hol hpd hpx hpa hsl hs1;clear h hb hp hwk hob hwn hvs hgn hg hbo hbb hbg hus hwb hol hpd hpx hpa hsl hs1;go_enter func213,ntmps213;go_upto_region 1 with fail
 obtain⟨q,hq⟩:=ex w.heap.size;obtain⟨wa,ea,ka,ba,sa⟩:=ax w 266 #[.slice (some ⟨wb,wo,none⟩) 1 wc,vs,ve] q hq;rw[ea];obtain⟨w1,eb,kb,bb,sb⟩:=ax wa 322 (bV (.slice (some ⟨ob,oo,none⟩) 1 oc) sl (bJ s)).toArray (q+1) sa;rw[eb,hq];have CC:Below w.heap.size w wa:=hq▸ba;have hbb:Below wa.heap.size wa w1:=sa▸bb;have A8:=CC.trans (hbb.mono CC.size);have A9:=H.a.below A8;have F8:Jf q wb wo ob oo [.slice (some ⟨wb,wo,none⟩) 1 wc,vs,ve] (bV (.slice (some ⟨ob,oo,none⟩) 1 oc) sl (bJ s)) [i6 1,.slice A1 0 c1,.slice A2 0 c2,.slice A3 0 c3] p.b w1:=⟨ka.ext hbb,kb,λj u hu=>cl A8 HS.a.1 (H.d j u hu),(cl A8 HS.b.1 H.e),Nat.lt_of_lt_of_le HS.a.1 A8.size,Nat.lt_of_lt_of_le HS.b.1 A8.size⟩;have HQ:=jc hq (H.a.hi q (Nat.le_of_eq hq):c.own q=0) (H.a.hi (q+1) om);have E1:=jd A9 F8 (H.b.ext A8) A8;have FZ:w1.cell? (ae c.g 195)=some (i6 c.k.aT):=(A9.cell _).trans (jA A9.len);have Ah:w1.cell? (ae c.g 194)=some (i6 c.age):=(A9.cell _).trans (gF A9.len);have f195:=A9.core.frozen 195;have f194:=A9.core.frozen 194;clear ea ka ba sa eb kb bb sb CC hbb A8 A9 F8 hq;go_upto_region 3 with fail
 obtain⟨w3,B3⟩:=ex ((w1.setCell (ae c.g 195) (i6 (c.k.aT+1))).setCell (ae c.g 194) (i6 (c.age+1)));have G1:=E1.a.set (c':={c with k:={c.k with aT:=c.k.aT+1}}) (uE E1.a.len _) ⟨E1.a.len.aF,E1.a.len.av,E1.a.len.maps,E1.a.len.used,E1.a.len.dH,E1.a.len.dG⟩ rfl rfl rfl rfl rfl rfl rfl rfl rfl rfl;have Cd:=G1.age (c.age+1);have T3:af (· =c.g) w1 w3:=B3▸(af.setCell w1 c.g 195 _).trans (af.setCell _ c.g 194 _) λ_ e=>.inl e;have B9:=B3;rw[show((w1.setCell (ae c.g 195) (i6 (c.k.aT+1))).setCell (ae (C.g {c with k:={c.k with aT:=c.k.aT+1}}) 194) (i6 (c.age+1)))=w3 from B9]at Cd;rw[B3];have G2:=E1.b.turn T3 (X:=(· =c.g)) (oi H.a.core.lt HQ.a) (oi H.a.core.lt HQ.a) (λe=>by have h0:=HS.a.2.1;rw[e,H.a.o1]at h0;cases h0) (λe=>by have h0:=HS.b.2.1;rw[e,H.a.o1]at h0;cases h0);have G5:=T3.map E1.c (X:=(· =c.g)) (λe=>by have h0:=HC.e;rw[e,H.a.o1]at h0;cases h0);obtain⟨U,A0⟩:∃U:C,{c with k:={c.k with aT:=c.k.aT+1},age:=c.age+1}=U:=⟨_,rfl⟩;have AI:bD w3 U [f]:=A0▸Cd;have Ao:=ja A0;have e1:U.g=c.g:=by rw[<-A0]
 have e2:U.gone=c.gone:=by rw[<-A0]
 have e3:U.aB=c.aB:=by rw[<-A0]
 have e4:U.b_=c.b_:=by rw[<-A0]
 have e5:U.files=c.files:=by rw[<-A0]
 have e6:U.own=c.own:=by rw[<-A0]
 have EC:=jf e1 e2 e3 e4 e5 e6;have G7:w3.cell? (ae c.g 167)=some (.map (some c.gone)):=by have h:=(AI.cell 167).trans (jq AI.len);rw[e1,e2]at h;exact h
 have Co:=AI.gone;rw[e2,e4,HC.c]at Co;have G8:af (λb=>c.own b≠0\/b=c.k.aY) w w3:=(af.aj (X:=λb=>c.own b≠0\/b=c.k.aY) E1.d).trans T3 λb e=>.inl (.inl (by rw[e,H.a.o1];decide));obtain⟨w4,H0,H2,H3,K3⟩:=aL.start Co az underlying101;have b4:Below w3.heap.size w3 w4:=Below.grown (Below.refl _ w3) H3 lh (λ_ e=>by cases e);have H4: (Instr.next (pt w3.heap.size 0) false 0).run prog w4=.ok (.tuple #[.bool false]) w4:=by
  rcases H2.step az 0 with⟨_,hq⟩|⟨n,v,w2,Aq,_⟩
  ·exact hq
  ·cases Aq
 have E4:=jd (AI.below b4) (G2.below b4) (G5.ext b4) (G8.trans (af.aj (X:=λb=>c.own b≠0\/b=c.k.aY) b4) λ_ e=>.inl e);obtain⟨r4,BB⟩:=ex w3.heap.size;rw[BB]at H0 H4;clear G1 Cd T3 B3 B9 G2 G5 A0 AI e1 e2 e3 e4 e5 e6 Co G8 H2 H3 K3 b4 BB FZ Ah f195 f194 E1;go_wp2;clear G7 H0;go_loopw [6] (λ_ wq=>wq=w4) (λ_ _=>0)
 case atStart=>rfl
 case round=>
  subst hrel;generalize wr=w4 at*;have B4:=E4.a;have BO:w4.cell? (ae c.g 168)=some (.map (some c.aB)):=(by have h:=(B4.cell 168).trans (eF B4.len);rw[EC.a,EC.c]at h;exact h);have D0:=B4.aB;rw[EC.c]at D0;obtain⟨w5,H5,D3,H6,K4⟩:=aL.start D0 az underlying101;have T5:af (· =c.aB) w4 w5:=af.bt H6 (λ_ e=>by cases e);obtain⟨r5,Ar⟩:=ex w4.heap.size;rw[Ar]at H5 D3;have E5:=jc D3 T5 Ar;clear B4 D0 D3 H6 K4 T5 Ar;go_wp2;clear BO H5 H4;(go_loopw [7] (λ_ wq=>∃l,aL wq prog 3 c.aB r5 l l/\af (· =c.aB) w4 wq) (λ_ wq=>wq.rangeLeft c.aB r5));case atStart=>exact⟨_,E5.a,E5.b⟩
  case round=>
   obtain⟨l,hR,hT⟩:=hrel;rcases hR.step az 0 with⟨H7,H9⟩|⟨n,v,w6,Aq,HA,H9,D5,HB,HE,KG,HF⟩
   ·subst H7;have A4:=E4.a.oW (hT.mono λb e=>by rw[EC.c];exact e) (by rw[EC.c];exact hR.owns);have TS:∀b,b=c.aB->c.own b≠0:=λb e=>(by rw[e,H.a.o4];decide);have A':¬q=c.aB:=λe=>TS q e HQ.b;have A5:=E4.b.turn hT A' (λe=>TS _ e HQ.c) (λe=>TS _ e HS.a.2.1) (λe=>TS _ e HS.b.2.1);have As:=hT.map E4.c (λe=>TS _ e HC.e);have A6:af (λb=>c.own b≠0\/b=c.k.aY) w wr:=E4.d.trans hT λb e=>.inl (.inl (TS b e));have E6:=jd A4 A5 As A6;have p0:=A5.k1.cell 0;clear A4 TS A' A5 As A6 hR hT E5 E4;generalize wr=w6 at*;go_wp2;clear p0;(go_loopw [8,9,10,65] (λ_ _ _ u wq=>(u=i6 0/\wq=w6)\/(u=i6 1/\OB w c U p q wb wo ob oo [.slice (some ⟨wb,wo,none⟩) 1 wc,vs,ve] (bV (.slice (some ⟨ob,oo,none⟩) 1 oc) sl (bJ s)) [i6 1,.slice A1 0 c1,.slice A2 0 c2,.slice A3 0 c3] wq)) (λ_ _ _ u _=>1-(intOf u).toNat));case atStart=>exact .inl ⟨rfl,rfl⟩
    case round=>
     rcases hrel with⟨rfl,rfl⟩|⟨rfl,hD⟩
     ·generalize wr=w6 at*;have A5:=E6.b;have y0:=A5.kw 0 _ rfl;have y1:=A5.kw 1 _ rfl;have y2:=A5.kw 2 _ rfl;have y3:=A5.kw 3 _ rfl;rw[Nat.add_zero]at y0;clear A5;(go_upto_region 15 with fail);obtain⟨q6,A'⟩:=ex w6.heap.size;obtain⟨w7,e7,k7,b7,s7⟩:=ax w6 314 #[i6 1,.slice A1 0 c1,.slice A2 0 c2,.slice A3 0 c3] q6 A';rw[e7,A'];have Au:Below w6.heap.size w6 w7:=A'▸b7;have B5:=E6.b.below Au;have E7:=jf (E6.a.below Au) B5 (E6.c.ext Au) (E6.d.trans (af.aj (X:=λb=>c.own b≠0\/b=c.k.aY) Au) λ_ e=>.inl e) k7 A';have x0:w7.cell? (ae (q+1) 0)=some (.slice (some ⟨ob,oo,none⟩) 1 oc):=B5.k2.cell 0;have x1:=B5.ko;clear y0 y1 y2 y3 e7 b7 Au B5 A' k7 s7;(go_upto_region 16 with fail);clear x0 x1;obtain⟨R,HG,Dv,HH⟩:=(E7.c.ext ((Below.refl _ w7).drew)).store az underlying105 (by rw[aq];decide) 1 (cC 1 dc dc) (pt p.b 0);rw[show dk [] (1:Int) (pt p.b 0)=[((1:Int),pt p.b 0)]from rfl]at Dv;have T9:af (· =c.k.aY) w7 R:=(af.aj (X:=(· =c.k.aY)) ((Below.refl _ w7).drew)).trans (bL HH) λ_ e=>.inl e;have HK:w7.drew.cell? (ae c.g 169)=some (.map (some c.k.aY)):=(by have h:=(E7.a.cell 169).trans (rI E7.a.len);rw[show C.g {U with cL:=[]}=c.g from EC.a,<-Ao.a]at h;exact h);have cw:w7.drew.cell? (ae q6 0)=some (i6 1):=E7.e.cell 0;have HL:nC w7 {U with cL:=[]} [f] (· =c.k.aY):=nC.plain HC.a HC.b (λb e _=>by rw[e];show U.own _=0;rw[EC.f];exact HC.e) (λb hb e=>by have:=HC.g;omega) (λe=>HC.f (by rw[<-e,<-Ao.a])) (λb hb e=>HC.h b (by rw[<-Ao.a]at hb;exact hb) e);have A':q6<w7.heap.size:=E7.e.lt;have I:=E7.a.rD T9 HL;have K5:=E7.c.lt;have K6:=HQ.a;have K7:=H.b.lt;have HM:=E7.b.turn T9 om om HS.a.2.2 HS.b.2.2;have HN:=T9.blk E7.e (oi E7.f E6.c.lt);have HO:af (λb=>c.own b≠0\/b=c.k.aY) w R:=E7.d.trans T9 λb e=>.inl (.inr e);have E9:=je I HM Dv HO HN;clear Dv HH T9 HL A' I K5 K6 K7 HM HN HO;refine wp_region_still_tail 7 kj kj ?_;simp only[List.take_succ_cons,List.take_zero,List.drop_succ_cons,List.drop_zero];(repeat still_step);refine wpStill_nil ?_;go_wp2;clear HK cw HG;have B6:gX R c.own p:=⟨E9.d.blk H.c.blk (λe=>e.elim (λe=>e H.c.o0) HS.c.1),E9.d.map H.c.data (λe=>e.elim (λe=>e H.c.o1) HS.c.2.1),E9.d.map H.c.nodes (λe=>e.elim (λe=>e H.c.o2) HS.c.2.2),H.c.o0,H.c.o1,H.c.o2⟩;have I:=E9.a;have c6:R.cell? (ae c.g 6)=some (.map (some c.files)):=(by have h:=(I.cell 6).trans (cg I.len);rw[show C.g {U with cL:=[]}=c.g from EC.a,show C.files {U with cL:=[]}=c.files from EC.e]at h;exact h);have Ah:R.cell? (ae c.g 194)=some (i6 (c.age+1)):=(by have h:=(I.cell 194).trans (gF I.len);rw[show C.g {U with cL:=[]}=c.g from EC.a,<-Ao.a]at h;exact h);have HP:c.g<R.heap.size:=(by have h:=I.core.lt;rw[show C.g {U with cL:=[]}=c.g from EC.a]at h;exact h);have K8:q6<R.heap.size:=E9.e.lt;have cq:R.cell? (ae q6 0)=some (i6 1):=E9.e.cell 0;have Av:p.b<R.heap.size:=B6.blk.lt;have HR:R.rangeAt p.b 2 (X.cells ⟨ty,ar,bN,0,0⟩):=B6.blk.bF 2 _ (by unfold W.cells;rw[HS.d];rfl);have HW:=ja B6;have Aw:Below R.heap.size R R.drew:=(Below.refl _ R).drew;clear B6 I;refine aQ 18 17 [(ez (pt c.g 0)),(ez (pt c.g 0)),(ez (pt c.g 6)),(ez (pt c.g 6)),(ez (.map (some c.files))),(ez (pt q6 0)),(ez (i6 1)),(ez (pt p.b 0)),(ez (pt p.b 0)),(ez (pt p.b 2)),(ez (.agg (X.cells ⟨ty,ar,bN,0,0⟩).toArray)),(ez (pt p.b 0)),(ez (pt c.g 0)),(ez (pt c.g 0)),(ez (pt c.g 194)),(ez (i6 (c.age+1))),(Ns R.heap.size p (c.age+1))]
       (λq_=>Below R.heap.size R q_) kj rfl dc kj kj ?_ ?_ ?_ ?_
      ·exact Aw
      ·exact⟨ah _,ah _,ah _,ah _,ah _,ah _,ah _,ah _,ah _,ah _,ah _,ah _,ah _,ah _,ah _,ah _,λ_ _ _ h hb=>h.ext hb,trivial⟩
      ·refine⟨rz [] [0],rz [0,82] [],rz [1,83] [],rz [2,84] [],rx [3,85] [] λx hG=>cl hG HP c6,rz [] [9],rx [5,87] [] λx hG=>cl hG K8 cq,rz [] [10],rz [7,89] [],rz [8,90] [],?_,rz [] [10],rz [] [0],rz [12,94] [],rz [13,95] [],rx [14,96] [] λx hG=>cl hG HP Ah,?_,trivial⟩
       ·intro a x hG hd hs K hK;have K9:_=_:=hd 9 91 kj;clear hd hs;refine pj ?_;refine wp_load_mid 41 (.tmp 91) rfl p.b 2 K9 (X.cells ⟨ty,ar,bN,0,0⟩) _ (λj u hu=>cl hG Av (HR j u hu)) underlying41 rfl kj ?_;exact hK _ _ rfl hG bh
       ·intro a x hG hd hs K hK;have KK:_=_:=hd 10 92 kj;have KM:_=_:=hd 11 93 kj;have KN:_=_:=hd 15 97 kj;clear hd hs;refine pj ?_;go_simp;refine(yJ p ty ar bN 0 HS.d (HW.a.blk.ext hG) (HW.a.data.ext hG) (c.age+1)).mono ?_;rintro e w' ⟨g,l1,l2,l3,l4,l5,rfl,k1,m1,m2,m3,m4,m5,hl,HT⟩;exact hK _ _ ⟨g,l1,l2,l3,l4,l5,rfl,k1,m1,m2,m3,m4,m5,Nat.le_trans hG.size hl.1,hl.2.1,hl.2.2.1,hl.2.2.2.1,hl.2.2.2.2.1,hl.2.2.2.2.2.1⟩ (hG.trans (HT.mono hG.size)) HT
      ·intro x hG;(iterate 16 rintro _ rfl);rintro KO HU;simp only[Act.put,List.setIfInBounds_toArray,List.set_cons_zero,List.set_cons_succ,List.take_zero,gC];rw[show List.range' 17 (18-17)=[17]from rfl,wpOps_cons];obtain⟨g,l1,l2,l3,l4,l5,rfl,k1,m1,m2,m3,m4,m5,hl⟩:=HU;have I:=E9.a;have F':=(I.below hG).files;rw[show C.files {U with cL:=[]}=c.files from EC.e]at F';obtain⟨B7,HG,Ax,BQ⟩:=F'.store az underlying95 (by rw[aq];show 1<9223372036854775807;decide) 1 (cC 1 dc dc) (pt g 0);rw[show dk (kC [f]) (1:Int) (pt g 0)=kC [Fi.of g l1 l2 l3 l4 l5 p (c.age+1)]from tE [f] 0 (Fi.of g l1 l2 l3 l4 l5 p (c.age+1)) (Nat.zero_le _) 1 rfl]at Ax;have F0:af (· =c.files) x B7:=bL BQ;obtain⟨Bg,B'⟩:=I.sP hG k1 m1 m2 m3 m4 m5 hl (p:=p) (age:=c.age+1) (w':=B7) (by show gX R U.own p;rw[EC.f];exact HW.a) (by rw[show C.files {U with cL:=[]}=c.files from EC.e];exact F0) (by rw[show C.files {U with cL:=[]}=c.files from EC.e];exact Ax);have o:c.own c.files≠0:=(by rw[H.a.o2];decide);have AR:af (· =c.files) R B7:=(af.aj (X:=(· =c.files)) hG).trans F0 λ_ e=>.inl e;have hD:OB w c U p q wb wo ob oo [.slice (some ⟨wb,wo,none⟩) 1 wc,vs,ve] (bV (.slice (some ⟨ob,oo,none⟩) 1 oc) sl (bJ s)) [i6 1,.slice A1 0 c1,.slice A2 0 c2,.slice A3 0 c3] B7:=(by refine⟨g,l1,l2,l3,l4,l5,_,Bg,λb hb=>(B' b (Nat.lt_of_lt_of_le hb E9.d.size)).trans (by show U.own b=_;rw[EC.f]),E9.b.turn AR (λe=>o (e▸HQ.b)) (λe=>o (e▸HQ.c)) (λe=>o (e▸HS.a.2.1)) (λe=>o (e▸HS.b.2.1)),AR.map E9.c (λe=>o (e▸HC.e)),HW.a.bU AR (λb e _=>by rw[e];exact o) (λb hb=>(B' b hb).trans (by show U.own b=_;rw[EC.f])),E9.d.trans AR λb e=>.inl (.inl (by rw[e];exact o))⟩);have HD:=ja hD;clear I F' Ax BQ F0 Bg B' o AR hD k1 m1 m2 m3 m4 m5 hl HR hG Aw c6 Ah cq;refine pj ?_;go_simp;unfold wpOps;(try simp only[Exit.then]);go_wp2;go_roundw;case rel=>exact .inr ⟨by go_num,HD.a⟩
       case measure=>simp[intOf]
     ·obtain⟨g,l1,l2,l3,l4,l5,own,hC,ho,hO,hM,hW,hT⟩:=hD;obtain⟨J,B0⟩:∃J:C,{U with cL:=[],own:=own}=J:=⟨_,rfl⟩;rw[B0]at hC;obtain⟨f2,F1⟩:=ex (Fi.of g l1 l2 l3 l4 l5 p (c.age+1));rw[F1]at hC;have Aa:J.g=c.g:=(by rw[<-B0];exact EC.a);have Bt:J.own=own:=(by rw[<-B0]);have Av:q+1<wr.heap.size:=hO.k2.lt;have F2:¬q+1=c.g:=(by have:=H.a.core.lt;have:=HQ.a;omega);have HV:wr.rangeAt (q+1) 1 sl:=hO.k2.bF 1 _ (by unfold bV;simp[HS.f]);have HX:wr.rangeAt (q+1) 121 (bJ s):=hO.k2.bF 121 _ (by unfold bV bJ;simp[HS.f]);have A7:=HS.f;have EX:=Lib.hid (⟨hC,ho,hM,hW,hT,B0,F1,Bt,Aa⟩:_/\_/\_/\_/\_/\_/\_/\_/\_);have SL:=ja A7;have F3:=hC.core;rw[Aa]at F3;have Aw:NI wr J c.g sl (bJ s) false false wr.drew:=⟨F3.ext ((Below.refl _ wr).drew),af.aj ((Below.refl _ wr).drew)⟩;have Bu: (prog.info? 99).map (·.size)=some sl.length:=(by rw[A7];kernel_rfl);have HI:=ja Bu;have hle:∀b1 b2,C.eI {J with aF:=cond b1 sl J.aF,k:={J.k with maps:=cond b2 (bJ s) J.k.maps}}:=λb1 b2=>⟨by cases b1<;>first|exact hC.len.aF|exact A7,hC.len.av,by cases b2<;>first|exact hC.len.maps|rfl,hC.len.used,hC.len.dH,hC.len.dG⟩;have Ab:=ja hle;clear hC ho hO hM hW hT B0 F1 Bt Aa A7 F3 Bu hle;(go_upto_region 19 with fail);refine cK 13 [(ez (pt c.g 0)),(ez (pt c.g 0)),(ez (pt (q+1) 1)),(ez (.agg sl.toArray)),(ez (pt (q+1) 121)),(ez (.agg (bJ s).toArray)),(ez (pt c.g 0)),(ez (pt c.g 6)),(ez (pt c.g 7)),(ez undef),(ez (pt c.g 0)),(ez (pt c.g 170)),(ez undef)]
       (λf_ q_=>NI wr J c.g sl (bJ s) (f_ 9) (f_ 12) q_) (λ_ q_ q'=>af (· =c.g) q_ q') kj rfl kj ?_ ?_ ?_ ?_
      ·exact Aw
      ·intro i_ j_ v_ q_ q' KQ hv hE;rcases j_ with _|_|_|_|_|_|_|_|_|_|_|_|_|j_;all_goals exact hv
      ·refine⟨lz [] [0],lz [] [0],lz [] [5],?_,lz [] [5],?_,lz [0,100] [],lz [6,106] [],lz [7,107] [],?_,lz [1,101] [],lz [10,109] [],?_,trivial⟩
       ·intro f a x F4 Ad Ae hG hd hs K hK;have HY:_=_:=hd 2 102 kj;clear hd hs Ad Ae;refine pj ?_;refine wp_load_mid 99 (.tmp 102) rfl (q+1) 1 HY sl _ (λj u hu=>(hG.2.cell (p:=ae (q+1) (1+j)) Av F2).trans (HV j u hu)) underlying99 rfl HI.a ?_;exact hK _ _ rfl hG (af.refl _ _)
       ·intro f a x F4 Ad Ae hG hd hs K hK;have HZ:_=_:=hd 4 104 kj;clear hd hs Ad Ae;refine pj ?_;refine wp_load_mid 106 (.tmp 104) rfl (q+1) 121 HZ (bJ s) _ (λj u hu=>(hG.2.cell (p:=ae (q+1) (121+j)) Av F2).trans (HX j u hu)) underlying106 rfl kj ?_;exact hK _ _ rfl hG (af.refl _ _)
       ·intro f a x F4 Ad Ae hG hd hs K hK;have Hw:_=_:=hd 8 108 kj;have Im:_=_:=hd 3 103 kj;clear hd hs Ad Ae;refine pj ?_;refine wp_store_mid 99 (.tmp 108) (.tmp 103) rfl c.g 7 sl.toArray Hw Im (hG.1.there _ _ (by rw[eu (Ab.a _ _),List.size_toArray,SL.a];decide)) (by rw[List.size_toArray];exact HI.a) (all_oneCell_toArray HS.g) ?_;refine hK _ _ rfl ⟨?_,hG.2.trans (af.setCells x c.g 7 sl) λ_ e=>.inl e⟩ (af.setCells x c.g 7 sl);have hk:=hG.1.setCells sl 7 (by rw[eu (Ab.a _ _),SL.a];decide);rw[rq (Ab.a _ _) sl SL.a]at hk;exact hk
       ·intro f a x F4 Ad Ae hG hd hs K hK;have J1:_=_:=hd 11 110 kj;have J2:_=_:=hd 5 105 kj;clear hd hs Ad Ae;refine pj ?_;refine wp_store_mid 106 (.tmp 110) (.tmp 105) rfl c.g 170 (bJ s).toArray J1 J2 (hG.1.there _ _ (by rw[eu (Ab.a _ _)];show 170+8<=196;decide)) kj (by simp[bJ,Value.oneCell']) ?_;refine hK _ _ rfl ⟨?_,hG.2.trans (af.setCells x c.g 170 (bJ s)) λ_ e=>.inl e⟩ (af.setCells x c.g 170 (bJ s));have hk:=hG.1.setCells (bJ s) 170 (by rw[eu (Ab.a _ _)];show 170+8<=196;decide);rw[Fg (Ab.a _ _) (bJ s) rfl]at hk;exact hk
      ·intro x hG;replace hG: (λf_ q_=>NI wr J c.g sl (bJ s) (f_ 9) (f_ 12) q_) (λj=>decide (j<13)) x:=hG;(try dsimp only at hG);(iterate 11 rintro _ rfl);simp only[Act.put,List.setIfInBounds_toArray,List.set_cons_zero,List.set_cons_succ,gC,List.getD_cons_zero,List.getD_cons_succ];(try simp only[Exit.then]);have A4:bD x {J with aF:=sl,k:={J.k with maps:=bJ s}} [f2]:=EX.out.1.pI (c':={J with aF:=sl,k:={J.k with maps:=bJ s}}) (by rw[EX.out.2.2.2.2.2.2.2.2];exact hG.2) (by show ak x J.g _ _;rw[EX.out.2.2.2.2.2.2.2.2];exact hG.1) (Ab.a true true) rfl rfl rfl rfl rfl rfl rfl rfl rfl rfl;have hX:=EX.out;have J3:∀b,c.own b=0->¬b=c.g:=λb h0 e=>(by rw[e,H.a.o1]at h0;cases h0);have As:=hG.2.map hX.2.2.1 (J3 _ HC.e);have Jx:gX x own p:=hX.2.2.2.1.bU hG.2 (λb e _=>by rw[e,<-hX.2.2.2.2.2.2.2.2,<-hX.2.2.2.2.2.2.2.1,hX.1.o1];decide) λ_ _=>rfl;have A6:af (λb=>c.own b≠0\/b=c.k.aY) w x:=hX.2.2.2.2.1.trans hG.2 λb e=>.inl (.inl (by rw[e,H.a.o1];decide));have E8:=jd A4 As Jx A6;clear hX J3 A4 As Jx A6 hG Aw HV HX Av F2;generalize x=w8 at*;have B8:J.k={c.k with aT:=c.k.aT+1}:=(by rw[<-EX.out.2.2.2.2.2.1,<-Ao.a]);have B1:=pM E8.a (by show J.k.g1=20/\J.k.g2=2/\J.k.g3=1/\J.k.g4=4;rw[B8];exact HC.d) 3 4 5 6 (s 0:Nat) (s 1:Nat) (s 2:Nat) (s 3:Nat) rfl dc dc dc dc (some p) (by show ay w8 _ _ J.k.aY _;rw[B8];exact E8.b)
        (λp' KA=>by obtain rfl:p=p':=Option.some.inj KA;refine⟨by show gX w8 J.own p;rw[EX.out.2.2.2.2.2.2.2.1];exact E8.c,by rw[HS.e];decide,f2,rfl,?_⟩;rw[<-EX.out.2.2.2.2.2.2.1];show p.x.tick=0;rw[HS.d])
        ⟨[3,4,5,6,2],tS HS.e,by decide,by decide⟩
       rw[show C.g {J with aF:=sl,k:={J.k with maps:=bJ s}}=c.g from EX.out.2.2.2.2.2.2.2.2,tS HS.e]at B1;replace B1:Calls prog 112 #[pt c.g 0] w8 (Ls w8 5):=B1;have KC:=ja B1;have EK:=ja B8;clear B1 B8;(go_wp2_with fail);refine KC.a.mono ?_;rintro e R ⟨ug,rfl,ku,F5,b9⟩;have I:=E8.a.below b9;have Aa:=EX.out.2.2.2.2.2.2.2.2;have KE:R.cell? (ae c.g 188)=some J.k.aU:=(by have h:=(I.cell 188).trans (o_ I.len);rw[show C.g {J with aF:=sl,k:={J.k with maps:=bJ s}}=c.g from Aa]at h;exact h);have f188:R.frozen? (ae c.g 188)=false:=(by have h:=I.core.frozen 188;rw[show C.g {J with aF:=sl,k:={J.k with maps:=bJ s}}=c.g from Aa]at h;exact h);have K0:bw R R.heap.size 2 (.slice (some ⟨ug,0,none⟩) 24 24) ((dW 5).length/2) (dW 5):=bw.more (ku.fe 0 24 24 2 (by rw[qF];decide) lh (by rw[aq];decide)) ku.lt;have B2:=I.Ji K0 (λb e=>by obtain rfl:ug=b:=(by injection e);exact⟨E8.a.hi ug F5,ku.lt⟩);have ew:R.setCell (ae (C.g {J with aF:=sl,k:={J.k with maps:=bJ s}}) 188) (.slice (some ⟨ug,0,none⟩) 24 24)=R.setCell (ae c.g 188) (.slice (some ⟨ug,0,none⟩) 24 24):=(by rw[show C.g {J with aF:=sl,k:={J.k with maps:=bJ s}}=c.g from Aa]);rw[ew]at B2;have By:af (λb=>c.own b≠0\/b=c.k.aY) w (R.setCell (ae c.g 188) (.slice (some ⟨ug,0,none⟩) 24 24)):=(E8.d.trans (af.aj (X:=(· =c.g)) b9) λb e=>.inl (.inl (by rw[e,H.a.o1];decide))).trans (af.setCell R c.g 188 _) λb e=>.inl (.inl (by rw[e,H.a.o1];decide));have F6:=jc B2 By (Nat.le_trans E8.d.size F5);clear I Aa ku F5 b9 K0 B2 By ew;go_wp2;go_end0;refine⟨{J with aF:=sl,k:={J.k with maps:=bJ s,aU:=.slice (some ⟨ug,0,none⟩) 24 24,nQ:=dW 5}},.slice (some ⟨ug,0,none⟩) 24 24,g,l1,l2,l3,l4,l5,rfl,by rw[EX.out.2.2.2.2.2.2.1];exact F6.a,?_,λb hb=>?_,F6.b,λb e=>?_⟩
       ·rw[EK.a,<-EX.out.2.2.2.2.2.1,<-Ao.a]
       ·show J.own b=_;rw[EX.out.2.2.2.2.2.2.2.1];exact EX.out.2.1 b hb
       ·obtain rfl:ug=b:=(by injection e);exact F6.c
   ·have A6:af (· =r5) wr w6:=af.bt HB (λ_ e=>(Option.some.inj e).symm);have F7:∀b,b=r5->b=c.aB\/w4.heap.size<=b:=λb e=>.inr (by rw[e,<-E5.c];exact Nat.le_refl _);have A4:=E4.a.oW ((hT.trans A6 F7).mono λb e=>by rw[EC.c];exact e) (by rw[EC.c];exact D5.owns);have BO:w6.cell? (ae c.g 168)=some (.map (some c.aB)):=(by have h:=(A4.cell 168).trans (eF A4.len);rw[show C.g {U with cL:=l}=c.g from EC.a,show C.aB {U with cL:=l}=c.aB from EC.c]at h;exact h);obtain⟨w7,KD,K1,K2,C4⟩:=aL.drop D5 az underlying101 n HA 0;have t7:af (· =c.aB) w4 w7:=(hT.trans A6 F7).trans (bL K2) λb e=>.inl e;have E7:=jc K1 t7 (Nat.lt_of_le_of_lt C4 HF);clear t7 A6 F7 A4 hR hT Aq HA D5 HB HE HF K1 K2 C4;go_wp2;go_roundw;case rel=>refine⟨bf l n,?_,E7.b⟩;have h:=E7.a;rw[show bf (bf l n) n=bf l n by unfold bf;rw[List.filter_filter];simp]at h;exact h
    case measure=>exact E7.c
end
end Co
end Go.Proofs.YtdhgejiacehpbaaGreatDoor
