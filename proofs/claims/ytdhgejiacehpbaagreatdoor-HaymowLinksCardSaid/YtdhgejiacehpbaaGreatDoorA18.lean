import Derived.Test.YtdhgejiacehpbaaGreatDoorA17
set_option maxRecDepth 100000
set_option maxHeartbeats 16000000
set_option linter.all false
namespace Go.Proofs.YtdhgejiacehpbaaGreatDoor
open Go.Proofs.Tryz
namespace ImW
open Go.RowKit Go.ChangeShapes Go.WideShapes Go.ChangeAt
open Im (Sl)
def iH (k:Nat):List (Int×Nat):=[(4,1768776048),(1,k)]
def sN (b:List Sl):List (Int×Nat):=b.flatMap λy=>[(4,y.a.toNat),(4,y.s),(4,y.v.toNat)]
theorem AT (y:Sl) (b:List Sl):sN (y::b)=(4,y.a.toNat)::(4,y.s)::(4,y.v.toNat)::sN b:=by unfold sN;rw[List.flatMap_cons];rfl
theorem Kv (a b:List Sl):sN (a++b)=sN a++sN b:=by unfold sN;rw[List.flatMap_append]
theorem Gh:∀b:List Sl,(sN b).length=3*b.length
 |[]=>rfl
 |y::b=>by rw[AT];simp only[List.length_cons,Gh b];omega
theorem Ga:∀b:List Sl,(Im.tW b.length).zip (Im.sV b)=sN b
 |[]=>rfl
 |y::b=>by rw[List.length_cons,Im.tW,Im.sh,List.zip_cons_cons,List.zip_cons_cons,List.zip_cons_cons,Ga b,AT]
theorem DB (b:List Sl) (h:b.length=10) (k:Nat):Im.GF.zip (Im.Jg b k)=iH k++sN b:=by unfold Im.GF Im.Jg;rw[Nd.eK _ _ _ _ rfl,<-Ga b,h];rfl
theorem I5 (b:List Sl) (j:Nat) (h:j<b.length):sN (b.take (j+1))=sN (b.take j)++[(4,(b.getD j Sl.zero).a.toNat),(4,(b.getD j Sl.zero).s),(4,(b.getD j Sl.zero).v.toNat)]:=by
 have e:b.getD j Sl.zero=b[j]:=by simp[List.getD,h]
 rw[List.take_succ_eq_append_getElem h,Kv,e];rfl
def Mx (l:List UInt8) (w:World) (e:Ending) (w':World):Prop:=∃u,e=.returned (.tuple #[u,i6 0])/\ju w.heap.size w' u l/\Bw w w'
theorem uL (m:List Sl) (k:Nat) (w:World) (hg:Im.Good m) (hmy:Im.aV m=true) (hk:k<4):
 Calls prog 252 #[eC m,i6 (k:Int)] w (Mx (Im.Mc m k) w):=by
 have HM:=ja hg.1;have As:=ja hmy;have hb:=Im.aM hg.1 hk;have A2:∀y∈Im.blk m k,Im.mO y=true:=λy hy=>(Im.zX hmy).1 y (Im.AB hy);have A3:∀y∈Im.blk m k,y.s<4294967296:=λy hy=>hg.2 y (Im.AB hy);have HC:=ja (Im.LO hb k om A2 A3);have HL:=ja (Im.Ac hb k);have HE:=ja (show Im.Mc m k=Crc.pad 128 (Pk.bO (iH k++sN (Im.blk m k))) by rw[<-DB _ hb];rfl);rw[DB _ hb]at HC HL;have HB:=ja hb;have Au:=ja A2;have Av:=ja A3;have Aw:=ja (λj h=>I5 (Im.blk m k) j h);have B4: (0:Int)<=(k:Int):=by omega
 have B5: (k:Int)<4:=by omega
 clear hg hmy hb A2 A3;unfold eC;go_enter func252,ntmps252;go_upto_region 1 with(fail)
 have i0:=ak.new w 99 (ag m).toArray;have c0:=(Below.refl w.heap.size w).alloc lh (.cells (ag m).toArray 99);change ak _ _ _ (ag m)at i0;generalize w.alloc (.cells (ag m).toArray 99)=w0 at*;generalize w.heap.size=g2 at i0|-;have hr:=i0.range;go_wp2_with(refine aw 99 (.tmp 2) rfl rfl g2 0 rfl (ag m) _ hr underlying99 rfl (ga _ HM.a) ?_)
 refine(uP m _ HM.a).mono ?_;rintro e w1 ⟨rfl,b1⟩;rw[As.a];have i1:=i0.ext b1;have c1:=c0.trans (b1.mono c0.size);clear hr i0 c0 b1;go_upto_region 6 with(fail)
 have I:=(ak.new w1 200 #[i6 4,.int .u64 1768776048,i6 1,.int .u64 (k:Int)]).own (base:=w1.heap.size) lh 2 2 2 rfl lh (by simp[maxLen]);rw[List.take_of_length_le sj]at I;have i2:=i1.alloc (.cells #[i6 4,.int .u64 1768776048,i6 1,.int .u64 (k:Int)] 200);have b2:=(Below.refl w1.heap.size w1).alloc lh (.cells #[i6 4,.int .u64 1768776048,i6 1,.int .u64 (k:Int)] 200);rw[show(#[i6 4,.int .u64 1768776048,i6 1,.int .u64 (k:Int)]:Array Value).toList=bg (iH k)from rfl]at I;generalize w1.alloc (.cells #[i6 4,.int .u64 1768776048,i6 1,.int .u64 (k:Int)] 200)=w2 at*;generalize Ax:Value.slice (some ⟨w1.heap.size,0,none⟩) 2 2=v4 at I|-;clear Ax;have hr:=i2.range;go_wp2_with(refine aw 99 (.tmp 2) rfl rfl g2 0 rfl (ag m) _ hr underlying99 rfl (ga _ HM.a) ?_)
 refine(g_ m k _ HM.a hk).mono ?_;rintro e w3 ⟨rfl,b3⟩;replace I:=aD I b3;replace b2:=b2.trans (b3.mono b2.size);clear hr i1 i2 b3;generalize Im.blk m k=B at*;unfold eC;go_wp2;go_loopw [6,28] (λy i wr=>∃j:Nat,j<=10/\i=i6 j/\wr.ownsRow w1.heap.size 200 2 y (2+3*j) (bg (iH k++sN (B.take j)))/\Bw w1 wr) (λ_ i _=>10-(intOf i).toNat)
 case atStart=>exact⟨0,by omega,rfl,by rw[show sN (B.take 0)=[]from rfl,List.append_nil];exact I,b2⟩
 case round=>
  obtain⟨j,hj,rfl,J,U⟩:=hrel;clear I b2;by_cases Ab:j<10
  ·have A4:j<B.length:=(by rw[HB.a];exact Ab);have A5:=ED B HB.a j Ab;have A6:=ja (show bg (iH k++sN (B.take (j+1)))=bg (iH k++sN (B.take j))++bg [(4,(B.getD j Sl.zero).a.toNat),(4,(B.getD j Sl.zero).s),(4,(B.getD j Sl.zero).v.toNat)] by rw[Aw.a j A4,<-List.append_assoc,eZ]);have A':=Im.jP (Au.a _ (Im.lW A4));have B0:=Av.a _ (Im.lW A4);generalize B.getD j Sl.zero=y at*;obtain⟨aa,s,vv⟩:=y;unfold FP at A5;simp only at A6 A' B0 A5;obtain⟨aa,rfl⟩:=Int.eq_ofNat_of_zero_le A'.1;obtain⟨vv,rfl⟩:=Int.eq_ofNat_of_zero_le A'.2.2.2.1;rw[Int.toNat_natCast,Int.toNat_natCast]at A6;have B6:aa<=2147483647:=(by omega);have B7:vv<=2147483647:=(by omega);clear A';(go_wp2_with(at_builtin;refine bT ?_));clear A5;have Ad: (wr.alloc (.cells #[i6 (aa:Int),.int .u32 (s:Int),i6 (vv:Int)] 97)).heap.size=wr.heap.size+1:=(by simp);have A7:=ak.new (wr.alloc (.cells #[i6 (aa:Int),.int .u32 (s:Int),i6 (vv:Int)] 97)) 200 #[i6 4,.int .u64 (aa:Int),i6 4,.int .u64 (s:Int),i6 4,.int .u64 (vv:Int)];rw[Ad]at A7;have A8:=(J.alloc (.cells #[i6 (aa:Int),.int .u32 (s:Int),i6 (vv:Int)] 97)).alloc (.cells #[i6 4,.int .u64 (aa:Int),i6 4,.int .u64 (s:Int),i6 4,.int .u64 (vv:Int)] 200);have d1:=U.alloc U.size (.cells #[i6 (aa:Int),.int .u32 (s:Int),i6 (vv:Int)] 97);have d2:=d1.alloc d1.size (.cells #[i6 4,.int .u64 (aa:Int),i6 4,.int .u64 (s:Int),i6 4,.int .u64 (vv:Int)] 200);obtain⟨ua,wa,o,A9,A1,_⟩:=aE (P:=prog) (ty:=193) underlying193 iS rfl dc A8 (A7.fe 0 3 3 2 sj om (by simp[maxLen])) (by simp[Value.oneCell']) (by rw[aq];omega) om d2.size;refine aN (v:=u6) (u:=.slice (some ⟨wr.heap.size+1,0,none⟩) 3 3) rfl (.tmp 31) (.tmp 46) 193 rfl rfl rfl o ?_;have d3:=d2.grown A1 d2.size (λg hg=>(A8.lt g hg).1);clear A7 A8 o A1 Ad d1 d2 J U;go_wp2;go_roundw;case rel=>exact⟨j+1,by omega,by go_num,by rw[A6.a,show 2+3*(j+1)=2+3*j+3 by omega];exact A9,d3⟩
   case measure=>exact ms
  ·obtain rfl:j=10:=(by omega);rw[List.take_of_length_le (by rw[HB.a];omega)]at J;have AI: (iH k++sN B).length=32:=(by rw[List.length_append,Gh,HB.a];rfl);have Ae:ee wr wr.heap.size u6 (iH k++sN B):=ee.aG (base:=w1.heap.size) (e:=200) (by rw[AI];exact J);have Ah:=ja Ae;have B1:=ja AI;have HZ:=ja (pC HC.a);have hp:=Pk.iM HC.a;have Ao:Pk.packed (iH k++sN B)=Pk.bO (iH k++sN B):=(by unfold Pk.packed;rw[if_pos hp]);have AR:=ja (And.intro hp Ao);have c2:=c1.trans (U.mono c1.size);rw[show(((10:Nat)):Int)=10 from rfl];clear hp Ao Ae AI J;generalize iH k++sN B=L at*;(go_wp2_with fail);refine(ic _ _ _ L Ah.a lh (by rw[B1.a];omega) HZ.a).mono ?_;rintro e w5 ⟨u,rfl,R,b5⟩;rw[AR.a.1];rw[AR.a.2]at R;have hs:Bs w5 w5.heap.size u (Pk.bO L):=Bs.aG R;have B2:=ja hs;have c3:=c2.trans (b5.mono c2.size);clear R hs AR b5 c2 U Ah;(go_wp2_with fail);refine(EJ _ _ _ _ B2.a lh (by rw[HL.a];omega)).mono ?_;rintro e w6 ⟨rfl,Aa,b6⟩;have A0: (Pk.pad 128 (Pk.bO L)).length=128:=Crc.dA 128 (Pk.bO L) (by rw[HL.a];omega);have Aq:Bs w6 w6.heap.size (.slice (some ⟨w5.heap.size,0,none⟩) 128 128) (Im.Mc m k):=(by rw[HE.a];have Ar:=(Aa.fe 0 128 128 1 (by rw[List.length_map,A0];omega) lh (by rw[aq];omega)).more (B':=w6.heap.size) Aa.lt;rw[List.drop_zero,List.take_of_length_le (by rw[List.length_map,A0];omega)]at Ar;unfold Bs;rw[show Crc.pad 128 (Pk.bO L)=Pk.pad 128 (Pk.bO L)from rfl,A0];exact Ar);have B3:=ja Aq;clear Aq Aa A0;go_wp2;go_ret2;exact⟨_,rfl,⟨B3.a,λb hb=>by obtain rfl:w5.heap.size=b:=(by injection hb);exact c3.size⟩,c3.trans (b6.mono c3.size)⟩
end ImW
namespace Co
open Go.RowKit
attribute [local go_sem] Oper.semAt_some
def bV (bs:Value) (sl mp:List Value):List Value:=bs::(sl++mp)
theorem dp {bs:Value} {sl mp:List Value} (h1:sl.length=120) (h2:mp.length=8): (bV bs sl mp).length=129:=by unfold bV;simp[h1,h2]
theorem Cw (sl mp:List Value) (h1:sl.length=120) (h2:mp.length=8):prog.built 322 [(1,.agg sl.toArray),(2,.agg mp.toArray)]=some (bV (.slice none 0 0) sl mp).toArray:=by
 have e:∀ps,prog.built 322 ps=Instr.fill (λx=>(#[(0,1),(1,120),(121,8)]:Array (Nat×Nat))[x]?) (bV (.slice none 0 0) df dQ).toArray ps:=λps=>by kernel_rfl
 rw[e];have R: (bV (.slice none 0 0) df dQ).length=129:=rfl;have I: (Value.agg sl.toArray).cells.size=120:=by show sl.toArray.size=_;simp[h1]
 have J: (Value.agg mp.toArray).cells.size=8:=by show mp.toArray.size=_;simp[h2]
 unfold Instr.fill;simp only[List.getElem?_toArray,List.getElem?_cons_zero,List.getElem?_cons_succ,I];rw[if_neg (by simp[R]),Dv.tg _ _ _ (by rw[I];simp[R])];unfold Instr.fill;simp only[List.getElem?_cons_zero,List.getElem?_cons_succ,J];have et: (bV (.slice none 0 0) df dQ).take 1=[.slice none 0 0]:=rfl;have hl: ((bV (.slice none 0 0) df dQ).take 1++sl++(bV (.slice none 0 0) df dQ).drop (1+120)).length=129:=by simp[R,h1]
 have U: ((bV (.slice none 0 0) df dQ).drop (1+120)).length=8:=by simp[R]
 rw[I];rw[et]at*;generalize(bV (.slice none 0 0) df dQ).drop (1+120)=D at*;have j: (Value.agg sl.toArray).cells.toList=sl:=rfl;have o: (Value.agg mp.toArray).cells.toList=mp:=rfl;rw[j];rw[if_neg (by simp[h1,U]),Dv.tg _ _ _ (by rw[J];simp[h1,U])];unfold Instr.fill;rw[o,J];congr 2;unfold bV;have t1: ([Value.slice none 0 0]++sl++D).take 121=Value.slice none 0 0::sl:=by rw[List.take_append_of_le_length (by simp[h1])];rw[show(121:Nat)=sl.length+1 by omega];simp
 have t2: ([Value.slice none 0 0]++sl++D).drop (121+8)=[]:=by apply List.drop_eq_nil_of_le;simp[h1,U]
 rw[List.toList_toArray,t1,t2];simp
theorem IC (sl mp:List Value) (h1:sl.length=120) (h2:mp.length=8) (V:World): (Instr.build 322 #[(1,.agg sl.toArray),(2,.agg mp.toArray)]).run prog V=.ok (.agg (bV (.slice none 0 0) sl mp).toArray) V:=run_build V 322 _ _ (Cw sl mp h1 h2)
theorem I3 (A:Option Addr) (c:Nat) (V:World): (Instr.build 377 #[(0,.slice A 5 c)]).run prog V=.ok (.agg #[.slice A 5 c,.slice none 0 0,i6 0]) V:=run_build V 377 _ _ kj
theorem nH {cs:List Value} (h:cs.length=129): (prog.info? 322).map (·.size)=some cs.length:=by rw[h];kernel_rfl
section
variable {w w':World} {c:C} {f:Fi}
def bJ (s:Nat->Nat):List Value:=[i6 3,.int .u32 (s 0:Nat),i6 4,.int .u32 (s 1:Nat),i6 5,.int .u32 (s 2:Nat),i6 6,.int .u32 (s 3:Nat)]
def Lu (w:World) (x:X) (m:List Im.Sl) (e:Ending) (w':World):Prop:=
 ∃A k bl bv,∃s:Nat->Nat,∃p:W,e=.returned (.tuple #[.slice A 5 k,.agg (bV bv (ImW.ag (m.set 1 ⟨2,Crc.sum (bl.getD 0 []),(Im.at_ m 1).v⟩)) (bJ s)).toArray])/\5<=k/\k<=9223372036854775807/\bl.length=5/\(∀j,j<5->(bl.getD j []).length=128)/\Bk w.heap.size w' A bl/\
  w'.ownsRow w.heap.size 153 1 bv 1 [pt p.b 0]/\ak w' p.b 260 p.cells/\p.at_=2/\p.x=x/\ay w' prog 3 p.data []/\ay w' prog 3 p.nodes []/\w.heap.size<=p.b/\w.heap.size<=p.data/\w.heap.size<=p.nodes/\
  p.sum=((Crc.sum (bl.getD 0 []):Nat):Int)/\(∀k,s k<4294967296)/\Bw w w'
theorem I6 {bv:Value} {sl sl' mp:List Value} (h:sl.length=sl'.length):mS (bV bv sl mp) 1 sl'=bV bv sl' mp:=by unfold mS bV;rw[<-h];simp[Nat.add_comm]
theorem rv.mono {S N N' g:Nat} {bl:List (List UInt8)} (h:rv S N g w bl) (hN:N<=N'):rv S N' g w bl:=by obtain⟨A,c,I,us,h⟩:=h;exact⟨A,c,I,us,h.blk,h.at_,h.JT,h.row,λb e=>Nat.lt_of_lt_of_le (h.L_ b e) hN,h.us,h.sg,Nat.lt_of_lt_of_le h.gn hN⟩
theorem rv.len {S N g j:Nat} {bl:List (List UInt8)} {l:List UInt8} (h:rv S N g w bl) (hj:bl[j]? =some l):l.length=128:=by
 obtain⟨A,c,J,us,h⟩:=h;have I:us.length=bl.length:=by have:=h.row.1;omega
 have:=(List.getElem?_eq_some_iff.1 hj).1;exact(h.us j us[j] l (List.getElem?_eq_getElem om) hj).2.1
def JH (s:Nat->Nat) (k j:Nat):List Value:=if j<k then [i6 ((3+j:Nat):Int),.int .u32 (s j:Nat)]else [i6 0,.int .u32 0]
theorem G3 (s:Nat->Nat) (k j:Nat): (JH s k j).length=2:=by unfold JH;split<;>rfl
def Df (s:Nat->Nat) (k:Nat):List Value:=(List.range 4).flatMap (JH s k)
theorem uQ (s:Nat->Nat):Df s 0=dQ:=rfl
theorem JC (s:Nat->Nat):Df s 4=bJ s:=rfl
theorem IL (s:Nat->Nat) (k:Nat): (Df s k).length=8:=by show(JH s k 0++(JH s k 1++(JH s k 2++(JH s k 3++[])))).length=8;simp[G3]
def Ia (w:World) (q o k:Nat) (pl:List Value) (x:X) (m:List Im.Sl) (V:World):Prop:=
 ∃p:W,∃bl,∃A9 n9 c9,∃s:Nat->Nat,rv q V.heap.size (q+2) V bl/\bl.length=k+1/\ak V o 322 (bV (.slice A9 n9 c9) (ImW.ag (m.set 1 ⟨2,Crc.sum (bl.getD 0 []),(Im.at_ m 1).v⟩)) (Df s k))/\V.ownsRow q 153 1 (.slice A9 n9 c9) 1 [pt p.b 0]/\
  (ak V p.b 260 p.cells/\p.at_=2/\p.sum=((Crc.sum (bl.getD 0 []):Nat):Int)/\p.x=x/\ay V prog 3 p.data []/\ay V prog 3 p.nodes []/\q<=p.b/\q<=p.data/\q<=p.nodes)/\
  ak V q 266 pl/\ak V (q+1) 322 (bV (.slice none 0 0) df dQ)/\(∀j,s j<4294967296)/\Bw w V
theorem Ft (s:Nat->Nat) (k x:Nat) (hk:k<4): (Df s k)[k*2]? =some (i6 0)/\(Df s k)[k*2+1]? =some (.int .u32 0)/\((Df s k).set (k*2) (i6 ((3+k:Nat):Int))).set (k*2+1) (.int .u32 (x:Int))=Df (λj=>if j=k then x else s j) (k+1):=by
 have:k=0\/k=1\/k=2\/k=3:=by omega
 rcases this with rfl|rfl|rfl|rfl<;>exact⟨rfl,rfl,rfl⟩
theorem sS {bv:Value} {sl mp:List Value} (h:sl.length=120) (i:Nat) (v:Value): (bV bv sl mp)[121+i]? =mp[i]? /\(bV bv sl mp).set (121+i) v=bV bv sl (mp.set i v):=by unfold bV;rw[show 121+i=(120+i)+1 by omega,List.getElem?_cons_succ,List.set_cons_succ,fJ h,fN h];exact⟨rfl,rfl⟩
theorem LL {P:Program} {V:World} {g t:Nat} {fn:Func} {tmps:Array Value} {a e:Nat} {u:Value} (cs:List Value) (d:TypeDesc) (hf:fn.results=#[.tmp e,.cell a t]) (ha:tmps.getD a undef=pt g 0) (hc:V.rangeAt g 0 cs)
 (hu:P.underlying t=some d) (hd:d.isRow=true) (hi: (P.info? t).map (·.size)=some cs.length) (he:tmps.getD e undef=u):
 (results fn tmps).run P V=.ok (.tuple #[u,.agg cs.toArray]) V:=by
 have I:=run_loadVar_mid (P:=P) V g 0 t cs d hc hu hd hi;rw[Array.getD_eq_getD_getElem?]at ha he;unfold results;rw[hf];simp[ha,I,he,asAddr]
theorem zw {P:Program} {o:Oper} {a:Act} {V:World} {next:Act->Prop} (ty:TypeId) (x:Operand) (ho:o.op=.load ty x) (b off:Nat) (hx:a.eval x=pt b off) (cs:List Value) (d:TypeDesc) (hc:V.rangeAt b off cs)
 (hu:P.underlying ty=some d) (hd:d.isRow=true) (hi: (P.info? ty).map (·.size)=some cs.length) (h:next (a.put o.dst (.agg cs.toArray))):o.still P a V next:=by
 have I:=run_loadVar_mid (P:=P) V b off ty cs d hc hu hd hi;unfold Oper.still execOp;simp only[ho,hx,Instr.loadAt,Instr.sureAddr,Sem.run_bind,Sem.run_pure,Result.andThen_ok,I];exact⟨rfl,h⟩
theorem Dg.below {S N g:Nat} {bl:List (List UInt8)} {A:Option Addr} {c:Nat} {vb:Value} {us:List Value} (h:Dg S N g w bl A c vb us) (hb:Bw w w'):Dg S N g w' bl A c vb us:=⟨h.blk.ext hb,(bw.ext h.at_ lh hb).more hb.size,h.JT,aD h.row hb,h.L_,λj u l hu I=>let⟨h1,h2,h3⟩:=h.us j u l hu I;⟨h1.ext hb,h2,h3⟩,h.sg,h.gn⟩
theorem Dg.qS {S N g t ty:Nat} {bl:List (List UInt8)} {A:Option Addr} {c:Nat} {vb:Value} {us cs:List Value} (h:Dg S N g w bl A c vb us) (ht:af (· =t) w w') (hk:ak w t ty cs) (hc:∀x∈cs,∀z,x≠.int .u8 z) (h1:ty≠377) (h2:ty≠23) (h3:ty≠5) (hS:S<=t):Dg S N g w' bl A c vb us:=by
 refine h.bU ht (λb e _=>?_) (λj u b hu hb e=>?_) λb e=>by rw[e];exact hS
 ·subst e;exact⟨aR hk h.blk h1,λ_=>⟨ty,cs,hk,h2,h3⟩⟩
 ·subst e;have I:=(List.getElem?_eq_some_iff.1 hu).1;have J:us.length=bl.length:=(by have:=h.row.1;omega);obtain⟨l,R⟩:∃l,bl[j]? =some l:=⟨_,List.getElem?_eq_getElem om⟩;obtain⟨U,o,q3⟩:=h.us j u l hu R;exact Fy U.1 o hk hc hb
theorem Dg.bk {S N g n cb:Nat} {bl:List (List UInt8)} {A Ab:Option Addr} {c:Nat} {us:List Value} (h:Dg S N g w bl A c (.slice Ab n cb) us):Bk S w Ab bl:=by
 intro j R;have o:us.length=bl.length:=by have:=h.row.1;omega
 obtain⟨A',c',J,_,_,_,h5⟩:=bw.aG h.row;injection J with J;subst J;obtain⟨b,off,rfl,hb,I⟩:=h5 om;obtain⟨U,q2,q3⟩:=h.us j us[j] bl[j] (List.getElem?_eq_getElem om) (List.getElem?_eq_getElem R);refine⟨b,off,us[j],bl[j],rfl,(h.row.lt b rfl).1,hb,I j _ (List.getElem?_eq_getElem om),⟨q2,?_⟩,U.1,U.2⟩;rw[List.getD_eq_getElem?_getD,List.getElem?_eq_getElem R];rfl
theorem LC: (prog.info? 153).map (λi=>(i.zero,i.size,i.bytes))=some (some (.pointer none),1,8):=by kernel_rfl
def Mq (l:List Value):Prop:=∀x∈l,(∀z,x≠.int .u8 z)/\x.oneCell'=true
theorem iE (s:Nat->Nat) (k:Nat):Mq (Df s k):=by intro x hx;obtain⟨j,_,I⟩:=List.mem_flatMap.1 hx;unfold JH at I;split at I<;>(simp at I;rcases I with rfl|rfl<;>exact⟨by simp,rfl⟩)
theorem eH (m:List Im.Sl):Mq (ImW.ag m):=by intro x hx;obtain⟨j,_,I⟩:=List.mem_flatMap.1 hx;unfold ImW.cR at I;simp at I;rcases I with rfl|rfl|rfl<;>exact⟨by simp,rfl⟩
theorem mH {a:Option Addr} {n k:Nat} {sl mp:List Value} (h1:Mq sl) (h2:Mq mp):Mq (bV (.slice a n k) sl mp):=by
 intro x hx;rcases List.mem_cons.1 hx with rfl|hx
 ·exact⟨by simp,rfl⟩
 ·exact(List.mem_append.1 hx).elim (h1 x) (h2 x)
theorem BN (h:bD w c [f]) (hwn:f.cU=none) (ty ar bN tick:Int) (hx:f.x=⟨ty,ar,bN,0,tick⟩) (hmy:Nd.aV ⟨ty,ar,bN,0,tick,List.replicate 9 (0,0)⟩=true)
 (m:List Im.Sl) (hm:m.length=40) (hs:c.aF=ImW.ag m) (hmp:c.k.maps=dQ) (hm2:∀s:Nat,s<4294967296->Im.lp m 1 (2,s)=0/\Im.qx m 1 (2,s)=m.set 1 ⟨2,s,(Im.at_ m 1).v⟩/\Im.aV (m.set 1 ⟨2,s,(Im.at_ m 1).v⟩)=true/\Im.Good (m.set 1 ⟨2,s,(Im.at_ m 1).v⟩))
 (wb wo wc:Nat) (A1 A2 A3:Option Addr) (c1 c2 c3:Nat) (hwk:∀(j:Nat) u,[i6 1,.slice A1 0 c1,.slice A2 0 c2,.slice A3 0 c3][j]? =some u->w.cell? (ae wb (wo+j))=some u) (hwb:wb<w.heap.size)
 (vs ve:Value) (hvs:Is .i64 w w.heap.size vs [0,1,2,3]) (A:Option Addr) (ca:Nat) (hat:Is .i64 w w.heap.size (.slice A 5 ca) [2,3,4,5,6]):
 Calls prog 211 #[pt c.g 0,.agg #[.slice (some ⟨wb,wo,none⟩) 1 wc,vs,ve],.slice A 5 ca] w (Lu w ⟨ty,ar,bN,0,tick⟩ m):=by
 obtain⟨As,AR,rfl,_,_,D3⟩:=hvs.open_;have H:=jd h hwk hvs hat;have KG:prog.info? 266=prog.info? 266:=rfl;clear h hwk hvs hat D3 KG;go_enter func211,ntmps211;go_upto_region 1 with fail
 obtain⟨q,hq⟩:=ex w.heap.size;obtain⟨w1,e1,k1,b1,s1⟩:=ax w 266 #[.slice (some ⟨wb,wo,none⟩) 1 wc,.slice As 4 AR,ve] q hq;rw[e1];obtain⟨w2,e2,k2,b2,s2⟩:=ax w1 322 (bV (.slice none 0 0) df dQ).toArray (q+1) s1;rw[show(Obj.cells zeroCells322 322)=.cells (bV (.slice none 0 0) df dQ).toArray 322 by kernel_rfl,e2,hq];have HQ:=ja hq;have F7:Below w.heap.size w w1:=hq▸b1;have F8:Below w1.heap.size w1 w2:=s1▸b2;have K2:=jc (k1.ext F8) k2 (F7.trans (F8.mono F7.size));have HW:=ja (I3 A ca);have S2:=ja s2;clear e1 k1 b1 s1 e2 k2 b2 s2 F7 F8 hq;have KK:=HW.a;go_upto_region 2 with fail
 obtain⟨w3,e3,k3,b3,s3⟩:=ax w2 377 #[.slice A 5 ca,.slice none 0 0,i6 0] (q+1+1) S2.a;rw[e3,S2.a];have B4:Below w2.heap.size w2 w3:=S2.a▸b3;have Ar:=H.a.below (K2.c.trans (B4.mono K2.c.size));have K3:=je (K2.a.ext B4) (K2.b.ext B4) k3 (K2.c.trans (B4.mono K2.c.size)) Ar;have Ax:c.aF.length=120:=Ar.len.aF;have B':c.k.maps.length=8:=Ar.len.maps;have EK:∀v∈bV (.slice none 0 0) c.aF c.k.maps,v.oneCell'=true:=λv hv=>by rw[hs,hmp,<-uQ λ_=>0]at hv;exact(mH (eH m) (iE _ _) v hv).2
 have B5: (prog.info? 322).map (·.size)=some (bV (.slice none 0 0) c.aF c.k.maps).length:=nH (dp Ax B');have hlen: (bV (.slice none 0 0) c.aF c.k.maps).length=129:=dp Ax B';have S3:=ja s3;clear e3 k3 b3 s3 B4 KK;refine fu 12 [pt c.g 0,pt c.g 0,pt c.g 6,pt c.g 7,.agg c.aF.toArray,pt c.g 0,pt c.g 0,pt c.g 170,.agg c.k.maps.toArray,.agg (bV (.slice none 0 0) c.aF c.k.maps).toArray,undef,undef] [⟨10,11,9,29,322,bV (.slice none 0 0) df dQ,bV (.slice none 0 0) c.aF c.k.maps,.agg (bV (.slice none 0 0) c.aF c.k.maps).toArray⟩] kj rfl kj rfl ?_ ?_ ?_
 ·intro xv B6;simp only[List.mem_cons,List.not_mem_nil,or_false]at B6;rcases B6 with rfl
  ·refine⟨by kernel_rfl,by kernel_rfl,by rw[hlen];rfl,by kernel_rfl,⟨9,by kernel_rfl,by simp,rfl⟩,?_,?_⟩
   ·intro a x K h;refine pj ?_;go_simp;exact h
   ·intro a x g K h1 h2 h3 h;refine pj ?_;refine wp_store_mid 322 (.tmp 9) (.tmp 29) rfl g 0 (bV (.slice none 0 0) c.aF c.k.maps).toArray h1 h2 (by rw[List.size_toArray];exact h3) (B5) (all_oneCell_toArray EK) ?_;exact h
 ·refine⟨vz [] [0],vz [0,20] [],vz [1,21] [],vz [2,22] [],?_,vz [] [0],vz [5,25] [],vz [6,26] [],?_,?_,vn,vn,trivial⟩
  ·intro _ a x hG hd hs K hK;have KM:a.tmps.getD 23 undef=pt c.g 7:=hd 3 23 kj sj;clear hd hs;refine pj ?_;refine wp_load_mid 99 (.tmp 23) rfl c.g 7 KM c.aF _ ((Ar.core.ext hG).bF 7 _ (by rw[Ax];exact qZ Ar.len)) underlying99 rfl (by rw[Ax];kernel_rfl) ?_;exact hK _ _ (λ_=>rfl) hG bh
  ·intro _ a x hG hd hs K hK;have KN:a.tmps.getD 27 undef=pt c.g 170:=hd 7 27 kj sj;clear hd hs;refine pj ?_;refine wp_load_mid 106 (.tmp 27) rfl c.g 170 KN c.k.maps _ ((Ar.core.ext hG).bF 170 _ (by rw[B'];exact si Ar.len)) underlying106 rfl (by rw[B'];kernel_rfl) ?_;exact hK _ _ (λ_=>rfl) hG bh
  ·intro _ a x hG hd hs K hK;have HD:a.tmps.getD 24 undef=.agg c.aF.toArray:=hd 4 24 kj sj;have M2:=aA HD;have HE:a.tmps.getD 28 undef=.agg c.k.maps.toArray:=hd 8 28 kj sj;have M3:=aA HE;clear hd hs;refine pj ?_;refine wp_build 322 #[(1,.tmp 24),(2,.tmp 28)] rfl (r:=.agg (bV (.slice none 0 0) c.aF c.k.maps).toArray) (by rw[List.map_toArray];simp only[List.map_cons,List.map_nil,Act.eval,HD,HE];exact IC _ _ Ax B' x) ?_;exact hK _ _ (λ_=>rfl) hG bh
 ·intro x hG;(iterate 10 rintro _ rfl);rintro _ ⟨B8,rfl,D5,A8⟩;replace A8:ak x B8 322 (bV (.slice none 0 0) c.aF c.k.maps):=A8;simp only[Act.put,List.setIfInBounds_toArray,List.set_cons_zero,List.set_cons_succ,gC];(try simp only[Exit.then]);obtain⟨o9,HF⟩:∃o,o=B8:=⟨_,rfl⟩;rw[<-HF]at D5 A8|-;clear HF;have A4:Below w.heap.size w x:=K3.d.trans (hG.mono K3.d.size);have HG:q+3<=o9:=(by have:=S3.a;omega);have HH:rv q (q+3) (q+2) x []:=(by refine⟨A,ca,.slice none 0 0,[],K3.c.ext hG,(H.d.ext lh A4).more A4.size,λb e=>?_,World.ownsRow_nil _ _ _ _,(λb e=>by cases e),(λj u l hu=>by simp at hu),by omega,by omega⟩;obtain⟨_,_,e1,_,_,h5⟩:=(show Is .i64 w w.heap.size (.slice A 5 ca) [2,3,4,5,6]from H.d).open_;injection e1 with e1;subst e1;obtain⟨b',o',e2,h6,_⟩:=h5 0 dc;subst e2;obtain rfl:b'=b:=(by injection e);have:=HQ.a;omega);have K5:=jf (K3.a.ext hG) (K3.b.ext hG) A8 (H.a.below A4) A4 HH;have HL:=jc Ax B' HG;have HI:x.cell? (ae q 0)=some (.slice (some ⟨wb,wo,none⟩) 1 wc):=K5.a.cell 0;clear hG A8 A4 HH EK B5 hlen Ax B' Ar D5 HG;generalize x=W0 at*;go_wp2;(go_loopw [11,12,13,14,33] (λ_ _ _ _ E1 wr=>(E1=i6 0/\W0=wr)\/(E1=i6 1/\Ia w q o9 0 [.slice (some ⟨wb,wo,none⟩) 1 wc,.slice As 4 AR,ve] ⟨ty,ar,bN,0,tick⟩ m wr)) (λ_ _ _ _ E1 _=>1-(intOf E1).toNat));case atStart=>exact .inl ⟨rfl,rfl⟩
  case round=>
   rcases hrel with⟨rfl,rfl⟩|⟨rfl,hM⟩
   ·have hwk:=λ(j:Nat) u h=>cl K5.e hwb (H.b j u h);have y0:W0.cell? (ae wb wo)=some (i6 1):=hwk 0 _ rfl;have y1:=hwk 1 _ rfl;have y2:=hwk 2 _ rfl;have y3:=hwk 3 _ rfl;clear hwk HI;(go_upto_region 6 with fail);obtain⟨q6,FZ⟩:=ex W0.heap.size;obtain⟨w6,e6,k6,b6,s6⟩:=ax W0 314 #[i6 1,.slice A1 0 c1,.slice A2 0 c2,.slice A3 0 c3] q6 FZ;rw[e6,FZ];have AI:Below W0.heap.size W0 w6:=FZ▸b6;have HK:=K5.d.below AI;have K6:=jg (K5.a.ext AI) (K5.b.ext AI) (K5.c.ext AI) HK (K5.e.trans (AI.mono K5.e.size)) (K5.f.below AI) k6;clear y0 y1 y2 y3 e6 b6 AI HK;refine wp_region_still_tail 10 kj kj ?_;obtain⟨w7,A5⟩:=ex ({w6 with drawn:=w6.drawn+1}:World);have b7:Below w6.heap.size w6 w7:=(by subst A5;exact(Below.refl _ w6).drew);rw[A5];have B0:=K6.d.below b7;have xc:w7.cell? (ae c.g 6)=some (.map (some c.files)):=(B0.cell 6).trans (cg B0.len);have G1:=B0.files.look az underlying95 (z:=.pointer none) kj 1 (WalkArith.wf_i64 om);rw[show bK (kC [f]) 1=some (pt f.g 0)from j7 [f] 0]at G1;simp only[Option.getD_some]at G1;have k7:=k6.ext b7;have z0:=k7.cell 0;have z1:=k7.cell 1;have z2:=k7.cell 2;have z3:=k7.cell 3;have hF:=B0.fi 0 f rfl;have KQ:=ja (DG (S:=q) (N:=q+3) (g:=q+2) (bl:=[]) hF hwn ty ar bN tick hx hmy (K6.f.below b7) dc B0.gl.halves B0.gl.D_ (oy K6.e.size HQ.a b7.size) (by
     have:=K6.c.lt;have:=b7.size;have:=HL.c;omega) om (by
     have M4:=(H.a.fi 0 f rfl).blk.lt;have:=HQ.a;omega) A1 A2 A3 c1 c2 c3)
    have K7:=jf (K6.a.ext b7) (K6.b.ext b7) (K6.c.ext b7) (K6.e.trans (b7.mono K6.e.size)) k7 (K6.f.below b7);clear hF B0 k7 b7 A5 k6 s6;simp only[List.take_succ_cons,List.take_zero,List.drop_succ_cons,List.drop_zero];(repeat still_step);refine wpStill_nil ?_;(go_wp2_with fail);refine KQ.a.mono ?_;rintro e w8 ⟨p,l,rfl,kp,p1,p2,p3,pd,pn,HN,HO,HP,HR,B3⟩;have M5:=K7.d.size;have E4:=HQ.a;have hY:∀{t ty:Nat} {cs:List Value},ak w7 t ty cs->ty≠377->ty≠23->¬Yw q (q+2) w7 t:=λ{t ty cs} hk h1 h2=>by
     rintro(e|⟨_,AR,B9⟩)
     ·obtain⟨A',c',G2,G5,h0⟩:=K7.f;exact aR hk h0.blk h1 e
     ·exact aR hk B9 h2 rfl
    have HS:Below w.heap.size w w8:=((af.aj (X:=λ_=>False) K7.d).trans B3 λb e=>.inr (by rcases e with e|⟨e,_⟩<;>omega)).bm lh λ_ e=>e.elim;have ko:=B3.blk K7.c (hY K7.c dc dc);have kq:=B3.blk K7.a (hY K7.a dc dc);have J:=B3.blk K7.b (hY K7.b dc dc);have kw:=B3.blk K7.e (hY K7.e dc dc);have K8:=ji kq J ko kw HS kp pd pn HN;have P8:=jf p1 p2 p3 HO HP HR;have x0:w8.cell? (ae o9 0)=some (.slice none 0 0):=ko.cell 0;clear hY HS ko kq J kw kp pd pn HN B3 p1 p2 p3 HO HP HR xc G1 z0 z1 z2 z3;(go_wp2_with(at_builtin;refine bT ?_));obtain⟨w9,e9,k9,b9,s9⟩:=ax w8 153 #[pt p.b 0] _ rfl;rw[e9];have KT:q<=w9.heap.size:=(by have:=K8.e.size;have:=HQ.a;omega);obtain⟨v',E5,EX,BB,HT,HU⟩:=aE (P:=prog) (ty:=320) underlying320 LC rfl dc (World.ownsRow_nil w9 q 153 1) (k9.fe 0 1 1 1 sj lh (by rw[aq];decide)) (by intro u hu;simp at hu;subst hu;rfl) (by rw[aq];decide) dc KT;refine aN rfl _ _ _ rfl rfl rfl EX ?_;obtain⟨A9,c9,rfl⟩:=Dv.aX BB;have U:Below w8.heap.size w8 E5:=b9.grown HT b9.size (λj e=>by cases e);have B2:=K8.c.ext U;have x0:=B2.cell 0;have f0:=B2.frozen 0;have BO:∀b,(Value.slice A9 (0+1) c9).ownBlock=some b->w8.heap.size<=b:=λb e=>by
     rcases HU with h|h
     ·rw[h]at e;cases e
     ·rw[h]at e;injection e with e;have:=b9.size;omega
    have I:=jl (K8.a.ext U) (K8.b.ext U) B2 (K8.d.ext U) (K8.e.trans (U.mono K8.e.size)) (K8.f.ext U) (K8.g.ext U) (K8.h.ext U) (K8.i.below U) BB BO U;clear e9 k9 b9 s9 BB HT HU BO U B2 EX;(go_upto_region 8 with fail);obtain⟨Aa,BQ⟩:=ex (E5.setCell (ae o9 0) (.slice A9 1 c9));have A6:af (· =o9) E5 Aa:=BQ▸af.setCell E5 o9 0 _;have KW:=ja (Nat.le_trans I.l.size A6.size);have ko:=I.c.aC 0 (.slice A9 1 c9);rw[BQ]at ko|-;have G7:=HL.c;have kq:=A6.blk I.a (aR I.a I.c dc);have J:=A6.blk I.b om;have kw:=A6.blk I.d (aR I.d I.c dc);have kp:=A6.blk I.f (aR I.f I.c dc);have pd:=A6.map I.g (aP I.g I.c);have pn:=A6.map I.h (aP I.h I.c);have F':=I.i.qS A6 I.c (λx hx=>(by rw[hs,hmp,<-uQ λ_=>0]at hx;exact(mH (eH m) (iE _ _) x hx).1)) dc dc dc om;have ow:=Dv.aJ I.j A6 λb e h=>(by subst h;exact Dv.aO I.j I.c dc b e rfl);have F0:Below w.heap.size w Aa:=((af.aj (X:=λ_=>False) I.e).trans A6 λb e=>.inr (by have:=HQ.a;have e:b=o9:=e;omega)).bm lh λ_ e=>e.elim;have Ad:=jj kq J ko kw F0 kp pd pn F' ow;clear A6 kq J F0 pd pn F' ow BQ x0 f0;obtain⟨sm,Au⟩:=ex (Crc.sum l);have HV:=ja Au;have Ae:sm<4294967296:=(by rw[<-Au];exact Crc.lD _);obtain⟨G8,H0,M6,M7⟩:=hm2 sm Ae;have HX:=ja (λV=>ImW.sq m 1 2 sm V hm (by first|exact G8|exact H0));rw[G8,H0]at HX;clear Au G8 H0;have Av: (ImW.ag m).length=120:=(by rw[ImW.au,hm]);have R: (ImW.ag (m.set 1 ⟨2,sm,(Im.at_ m 1).v⟩)).length=120:=(by rw[ImW.au,List.length_set,hm]);have Bg:∀v∈ImW.ag (m.set 1 ⟨2,sm,(Im.at_ m 1).v⟩),v.oneCell'=true:=λv hv=>(eH _ v hv).2;have Aw: (prog.info? 99).map (·.size)=some (ImW.ag (m.set 1 ⟨2,sm,(Im.at_ m 1).v⟩)).length:=(by rw[R];kernel_rfl);have KY:bV (.slice A9 1 c9) (ImW.ag m) c.k.maps=(bV (.slice none 0 0) c.aF c.k.maps).set 0 (.slice A9 1 c9):=(by rw[hs];rfl);rw[<-KY]at ko;have Bt:Aa.rangeAt o9 1 (ImW.ag m):=ko.bF 1 _ (by unfold bV;simp[Av]);have c0:Aa.cell? (ae p.b 0)=some (i6 2):=(kp.cell 0).trans (by show some (i6 p.at_)=_;rw[P8.a];rfl);have E6:Aa.cell? (ae p.b 1)=some (.int .u32 (sm:Int)):=(kp.cell 1).trans (by show some (Value.int .u32 p.sum)=_;rw[P8.b,HV.a]);have HY:Aa.cell? (ae q6 0)=some (i6 1):=kw.cell 0;have KZ:o9<Aa.heap.size:=ko.lt;have HZ:p.b<Aa.heap.size:=kp.lt;have L':q6<Aa.heap.size:=kw.lt;have KO:=ja ko;clear ko kp kw;refine fu 15 [pt o9 1,.agg (ImW.ag m).toArray,pt q6 0,i6 1,pt p.b 0,pt p.b 0,pt p.b 0,.agg #[i6 2,.int .u32 (sm:Int)],.tuple #[.agg (ImW.ag (m.set 1 ⟨2,sm,(Im.at_ m 1).v⟩)).toArray,i6 0],.tuple #[.agg (ImW.ag (m.set 1 ⟨2,sm,(Im.at_ m 1).v⟩)).toArray,i6 0],.agg (ImW.ag (m.set 1 ⟨2,sm,(Im.at_ m 1).v⟩)).toArray,i6 0,undef,undef,i6 0] [⟨12,13,13,64,99,df,ImW.ag (m.set 1 ⟨2,sm,(Im.at_ m 1).v⟩),.agg (ImW.ag (m.set 1 ⟨2,sm,(Im.at_ m 1).v⟩)).toArray⟩] kj rfl kj rfl ?_ ?_ ?_
    ·intro xv B6;simp only[List.mem_cons,List.not_mem_nil,or_false]at B6;rcases B6 with rfl
     ·refine⟨by kernel_rfl,by kernel_rfl,by rw[R];rfl,by kernel_rfl,⟨10,by kernel_rfl,by simp,rfl⟩,?_,?_⟩
      ·intro a x K h;refine pj ?_;go_simp;exact h
      ·intro a x g K h1 h2 h3 h;refine pj ?_;refine wp_store_mid 99 (.tmp 13) (.tmp 64) rfl g 0 (ImW.ag (m.set 1 ⟨2,sm,(Im.at_ m 1).v⟩)).toArray h1 h2 (by rw[List.size_toArray];exact h3) (Aw) (all_oneCell_toArray Bg) ?_;exact h
    ·refine⟨vz [] [9],?_,vz [] [11],vx [2,57] [] λx hG=>cl hG L' HY,vz [] [12],vz [4,59] [],vz [5,60] [],vx [6,61] [] λx hG=>And.intro (cl hG HZ c0) (cl hG HZ E6),?_,vz [8,63] [],vz [9,54] [],vz [9,54] [],vn,vn,vz [11,65] [],trivial⟩
     ·intro _ a x hG hd hs K hK;have L0:a.tmps.getD 55 undef=pt o9 1:=hd 0 55 kj sj;clear hd hs;refine pj ?_;refine wp_load_mid 99 (.tmp 55) rfl o9 1 L0 (ImW.ag m) _ (λj u hu=>cl hG KZ (Bt j u hu)) underlying99 rfl (by rw[Av];kernel_rfl) ?_;exact hK _ _ (λ_=>rfl) hG bh
     ·intro _ a x hG hd hs K hK;have M8:a.tmps.getD 56 undef=.agg (ImW.ag m).toArray:=hd 1 56 kj sj;have N':a.tmps.getD 58 undef=i6 1:=hd 3 58 kj sj;have N1:a.tmps.getD 62 undef=.agg #[i6 2,.int .u32 (sm:Int)]:=hd 7 62 kj sj;clear hd hs;refine pj ?_;go_simp;refine(HX.a x).mono ?_;rintro e w' ⟨rfl,Hw⟩;exact hK _ _ (λ_=>rfl) (hG.trans (Hw.mono hG.size)) Hw
    ·intro x hG;(iterate 12 rintro _ rfl);rintro _ ⟨B8,rfl,D5,A8⟩ _ rfl;replace A8:ak x B8 99 (ImW.ag (m.set 1 ⟨2,sm,(Im.at_ m 1).v⟩)):=A8;simp only[Act.put,List.setIfInBounds_toArray,List.set_cons_zero,List.set_cons_succ,gC];(try simp only[Exit.then]);have ZX:=ja (Nat.le_trans KW.a hG.size);have J1:Below w.heap.size w x:=Ad.e.trans (hG.mono Ad.e.size);have KX:=ji (Ad.a.ext hG) (Ad.b.ext hG) (KO.a.ext hG) J1 (Ad.f.ext hG) (Ad.g.ext hG) (Ad.h.ext hG) (Ad.i.below hG) (aD Ad.j hG);have L3:=A8.range;have H2:x.there o9 1 (ImW.ag (m.set 1 ⟨2,sm,(Im.at_ m 1).v⟩)).length:=KX.c.there 1 _ (by rw[R,dp Av HL.b];decide);clear hG A8 D5 J1 Bt c0 E6 HY;(go_upto_region 12 with(first|refine aw 99 (.tmp 13) rfl rfl B8 0 rfl (ImW.ag (m.set 1 ⟨2,sm,(Im.at_ m 1).v⟩)) _ L3 underlying99 rfl Aw ?_|refine cM rfl 99 (.tmp 70) (.tmp 69) rfl o9 1 (ImW.ag (m.set 1 ⟨2,sm,(Im.at_ m 1).v⟩)) rfl rfl H2 Aw Bg ?_));obtain⟨E7,Bu⟩:=ex (x.setCells o9 1 (ImW.ag (m.set 1 ⟨2,sm,(Im.at_ m 1).v⟩)));have Ah:af (· =o9) x E7:=Bu▸af.setCells x o9 1 _;have ko:=KX.c.setCells (ImW.ag (m.set 1 ⟨2,sm,(Im.at_ m 1).v⟩)) 1 (by rw[R,dp Av HL.b];decide);rw[Bu]at ko|-;rw[I6 (by rw[Av,R])]at ko;have G7:=HL.c;have F1:x.heap.size=E7.heap.size:=(by rw[<-Bu,fc]);have kq:=Ah.blk KX.a (aR KX.a KX.c dc);have J:=Ah.blk KX.b om;have kp:=Ah.blk KX.e (aR KX.e KX.c dc);have pd:=Ah.map KX.f (aP KX.f KX.c);have pn:=Ah.map KX.g (aP KX.g KX.c);have F2:=KX.h.qS Ah KX.c (λx hx=>(by rw[hmp,<-uQ λ_=>0]at hx;exact(mH (eH m) (iE _ _) x hx).1)) dc dc dc om;have ow:=Dv.aJ KX.i Ah λb e h=>(by subst h;exact Dv.aO KX.i KX.c dc b e rfl);have F3:Below w.heap.size w E7:=((af.aj (X:=λ_=>False) KX.d).trans Ah λb e=>.inr (by have:=HQ.a;have e:b=o9:=e;omega)).bm lh λ_ e=>e.elim;have HM:=ja (show Ia w q o9 0 [.slice (some ⟨wb,wo,none⟩) 1 wc,.slice As 4 AR,ve] ⟨ty,ar,bN,0,tick⟩ m E7 from by
      have L4:∀u:List UInt8,([]++[u]:List (List UInt8)).getD 0 []=u:=λ_=>rfl;refine⟨p,[]++[l],A9,1,c9,λ_=>0,F2.mono ?_,rfl,?_,ow,⟨kp,P8.a,P8.b,P8.c,pd,pn,by have:=P8.d;have:=K7.d.size;have:=HQ.a;omega,by have:=P8.e;have:=K7.d.size;have:=HQ.a;omega,by have:=P8.f;have:=K7.d.size;have:=HQ.a;omega⟩,kq,J,λ_=>(by decide: (0:Nat)<4294967296),F3⟩
      ·rw[<-F1];exact ZX.a
      ·rw[uQ,<-hmp,L4,HV.a];exact ko)
     clear Ah ko kq J kp pd pn F2 ow F3 F1;go_wp2;go_roundw;case rel=>exact .inr ⟨by go_num,HM.a⟩
     case measure=>simp[intOf]
   ·have L5:=hM;obtain⟨p,bl,A9,n9,c9,s,hW,B1,ko,ow,hp,kq,J,A7,A4⟩:=L5;have J2:wr.cell? (ae q 1)=some (.slice As 4 AR):=kq.cell 1;have HM:=ja hM;clear p bl A9 n9 c9 s hW B1 ko ow hp kq J A7 A4 hM HI;go_wp2;(go_loopw [16,75] (λ_ v75 wr=>∃k:Nat,k<=4/\v75=i6 (k:Int)/\Ia w q o9 k [.slice (some ⟨wb,wo,none⟩) 1 wc,.slice As 4 AR,ve] ⟨ty,ar,bN,0,tick⟩ m wr) (λ_ v75 _=>4-(intOf v75).toNat));case atStart=>exact⟨0,by decide,rfl,HM.a⟩
    case round=>
     obtain⟨k,hk,rfl,J3⟩:=hrel;by_cases E8:k<4
     ·obtain⟨p,bl,A9,n9,c9,s,hW,B1,ko,ow,hp,kq,J,A7,A4⟩:=J3;obtain⟨Ab,N3,eb,_,_,D3⟩:=H.c.open_;injection eb with eb _ ec;subst eb ec;obtain⟨sb,so,rfl,LG,By⟩:=D3 k E8;have xk:wr.cell? (ae sb (so+k))=some (i6 (k:Int)):=(cl A4 LG By).trans (by have:k=0\/k=1\/k=2\/k=3:=(by omega);rcases this with rfl|rfl|rfl|rfl<;>rfl);clear D3 By J2;(go_upto_region 16 with fail);obtain⟨sm,Au⟩:=ex (Crc.sum (bl.getD 0 []));have C4:=hp.2.2.1;rw[Au]at ko C4;have Ae:sm<4294967296:=(by rw[<-Au];exact Crc.lD _);obtain⟨_,_,CC,Ao⟩:=hm2 sm Ae;obtain⟨m',E9⟩:=ex (m.set 1 ⟨2,sm,(Im.at_ m 1).v⟩);rw[E9]at ko CC Ao;have R: (ImW.ag m').length=120:=(by rw[ImW.au,<-E9,List.length_set,hm]);have Aw: (prog.info? 99).map (·.size)=some (ImW.ag m').length:=(by rw[R];kernel_rfl);have Bt:wr.rangeAt o9 1 (ImW.ag m'):=ko.bF 1 _ (by unfold bV;simp[R]);have Lb:=ja (ImW.uL m' k wr Ao CC E8);have KR:=jm hW B1 ko ow hp kq J A7 A4 C4 Au E9 Ao;clear hW B1 ko ow hp kq J A7 A4 C4 Au E9 CC Ao Ae;(go_wp2_with(refine aw 99 (.tmp 81) rfl rfl o9 1 rfl (ImW.ag m') _ Bt underlying99 rfl Aw ?_));refine Lb.a.mono ?_;rintro e w5 ⟨u,rfl,hu,b5⟩;have H3:=KR.i.trans (b5.mono KR.i.size);have Jx:q<=wr.heap.size:=(by have:=KR.i.size;have:=HQ.a;omega);have Ld:=ja (vO (KR.a.below b5) (by rw[KR.b];omega) (H.a.gl.halves.ext H3) (Nat.le_trans Jx b5.size) u (Im.Mc m' k) hu Jx (Im.GW (Im.aM KR.m.1 E8) k));have A0:=ji (KR.c.ext b5) (aD KR.d b5) (KR.e.1.ext b5) (KR.e.2.2.2.2.1.ext b5) (KR.e.2.2.2.2.2.1.ext b5) (KR.f.ext b5) (KR.g.ext b5) H3 (KR.a.below b5);clear hu b5 H3 Bt xk;(go_wp2_with fail);refine Ld.a.mono ?_;rintro e w6 ⟨rfl,K0,Aq⟩;have hY:∀{t ty:Nat} {cs:List Value},ak w5 t ty cs->ty≠377->ty≠23->¬Yw q (q+2) w5 t:=λ{t ty cs} hk h1 h2=>by
       rintro(e|⟨_,AR,B9⟩)
       ·obtain⟨A',c',G2,G5,h0⟩:=A0.i;exact aR hk h0.blk h1 e
       ·exact aR hk B9 h2 rfl
      have H4:∀{t:Nat},ay w5 prog 3 t []->¬Yw q (q+2) w5 t:=λ{t} hm=>by
       rintro(e|⟨_,AR,B9⟩)
       ·obtain⟨A',c',G2,G5,h0⟩:=A0.i;exact aP hm h0.blk e
       ·exact iP hm B9
      have ko:=Aq.blk A0.a (hY A0.a dc dc);have ow:=Dv.aJ A0.b Aq λb e h=>(by obtain⟨cs,hk⟩:=pD A0.b e;exact hY hk dc dc h);have kp:=Aq.blk A0.c (hY A0.c dc dc);have pd:=Aq.map A0.d (H4 A0.d);have pn:=Aq.map A0.e (H4 A0.e);have kq:=Aq.blk A0.f (hY A0.f dc dc);have J:=Aq.blk A0.g (hY A0.g dc dc);have E4:=HQ.a;have AI:Below w.heap.size w w6:=((af.aj (X:=λ_=>False) A0.h).trans Aq λb e=>.inr (by rcases e with e|⟨e,_⟩<;>omega)).bm lh λ_ e=>e.elim;obtain⟨sk,H5⟩:=ex (Crc.sum (Im.Mc m' k));have Cd:sk<4294967296:=(by rw[<-H5];exact Crc.lD _);obtain⟨n1,n2,n3⟩:=Ft s k sk E8;have c0:w6.cell? (ae o9 (121+k*2))=some (i6 0):=((ko.cell _).trans (sS R (k*2) undef).1).trans n1;have E6:w6.cell? (ae o9 (121+k*2+1))=some (.int .u32 0):=((ko.cell _).trans (sS R (k*2+1) undef).1).trans n2;have f0:=ko.frozen (121+k*2);have f1:=ko.frozen (121+k*2+1);have K6:=jk ko ow kp pd pn kq J AI K0 n3 Cd;have F4: ((bl.length:Int)+2)=((3+k:Nat):Int):=(by rw[KR.b];omega);rw[F4,H5];clear hY H4 ko ow kp pd pn kq J AI K0 n1 n2 n3 Cd F4 H5 Aq;go_wp2;obtain⟨w7,A5⟩:=ex ((w6.setCell (ae o9 (121+k*2)) (i6 (3+(k:Int)))).setCell (ae o9 (121+k*2+1)) (.int .u32 (sk:Int)));have T7:af (· =o9) w6 w7:=A5▸(af.setCell w6 o9 (121+k*2) _).trans (af.setCell _ o9 (121+k*2+1) _) λ_ e=>.inl e;have ko:=(K6.a.aC (121+k*2) (i6 (3+(k:Int)))).aC (121+k*2+1) (.int .u32 (sk:Int));rw[A5]at ko|-;rw[(sS R (k*2) _).2,show 121+k*2+1=121+(k*2+1) by omega,(sS R (k*2+1) _).2,show(3+(k:Int))=((3+k:Nat):Int) by omega,K6.j]at ko;have G7:=HL.c;have K1:w6.heap.size=w7.heap.size:=(by rw[<-A5];simp);have K4:Ia w q o9 (k+1) [.slice (some ⟨wb,wo,none⟩) 1 wc,.slice (some ⟨sb,so,none⟩) 4 AR,ve] ⟨ty,ar,bN,0,tick⟩ m w7:=by
       have K9: (bl++[Im.Mc m' k]).getD 0 []=bl.getD 0 []:=(by have:=KR.b;rw[List.getD_eq_getElem?_getD,List.getD_eq_getElem?_getD,List.getElem?_append_left om]);refine⟨p,bl++[Im.Mc m' k],A9,n9,c9,λj=>if j=k then sk else s j,?_,by rw[List.length_append,KR.b];rfl,?_,?_,⟨T7.blk K6.c (aR K6.c K6.a dc),KR.e.2.1,by rw[K9];exact KR.e.2.2.1,KR.e.2.2.2.1,T7.map K6.d (aP K6.d K6.a),T7.map K6.e (aP K6.e K6.a),KR.e.2.2.2.2.2.2⟩,T7.blk K6.f (aR K6.f K6.a dc),T7.blk K6.g om,λj=>?_,?_⟩
       ·rw[<-K1];exact K6.i.qS T7 K6.a (λx hx=>(mH (eH m') (iE _ _) x hx).1) dc dc dc om
       ·rw[K9,KR.k,KR.l];exact ko
       ·exact Dv.aJ K6.b T7 λb e h=>by subst h;exact Dv.aO K6.b K6.a dc b e rfl
       ·show(if j=k then sk else s j)<4294967296
        split
        ·exact K6.k
        ·exact KR.h j
       ·exact((af.aj (X:=λ_=>False) K6.h).trans T7 λb e=>.inr (by have:=HQ.a;have e:b=o9:=e;omega)).bm lh λ_ e=>e.elim
      have Lk:=ja K4;clear K4 T7 ko K1 c0 E6 f0 f1;go_roundw;case rel=>exact⟨k+1,by omega,by go_num,Lk.a⟩
      case measure=>simp[intOf];omega
     ·obtain rfl:k=4:=(by omega);obtain⟨p,bl,A9,n9,c9,s,hW,B1,ko,ow,hp,kq,J,A7,A4⟩:=J3;obtain⟨A',c',G2,G5,hw⟩:=hW;obtain⟨Ab,cb,rfl⟩:=Dv.aX hw.row;have x2:wr.cell? (ae (q+1+1) 2)=some (i6 0):=hw.blk.cell 2;have Co: (bV (.slice A9 n9 c9) (ImW.ag (m.set 1 ⟨2,Crc.sum (bl.getD 0 []),(Im.at_ m 1).v⟩)) (Df s 4)).length=129:=dp (by rw[ImW.au,List.length_set,hm]) (IL _ _);have H6:∀v∈bV (.slice A9 n9 c9) (ImW.ag (m.set 1 ⟨2,Crc.sum (bl.getD 0 []),(Im.at_ m 1).v⟩)) (Df s 4),v.oneCell'=true:=λv hv=>(mH (eH _) (iE _ _) v hv).2;have G7:=HL.c;have KE:=jh hw B1 ko ow hp J A7 A4;obtain⟨cs,H7⟩:=ex (bV (.slice A9 n9 c9) (ImW.ag (m.set 1 ⟨2,Crc.sum (bl.getD 0 []),(Im.at_ m 1).v⟩)) (Df s 4));rw[H7]at Co H6 ko;have KA:=jb H7 H6;have H9:=ja Co;have KC:=ko.range;have B5: (prog.info? 322).map (·.size)=some cs.length:=nH Co;have HA:=ja B5;have H2:wr.there (q+1) 0 cs.length:=J.there 0 _ (by rw[Co,dp rfl rfl];decide);clear hw B1 ow hp kq J A7 A4 H7 H6 ko B5 J2 Co;(go_upto_region 20 with fail);refine wp_region_still_tail 6 kj kj ?_;obtain⟨w7,A5⟩:=ex ({wr with drawn:=wr.drawn+1}:World);have b7:Below wr.heap.size wr w7:=(by subst A5;exact(Below.refl _ wr).drew);rw[A5];have x1:w7.cell? (ae (q+1+1) 1)=some (.slice Ab bl.length cb):=(KE.a.blk.ext b7).cell 1;have F5:w7.rangeAt o9 0 cs:=λj u hu=>cl b7 KE.c.lt (KC j u hu);have F6:w7.there (q+1) 0 cs.length:=(KE.f.ext b7).there 0 _ (by rw[H9.a,dp rfl rfl];decide);have B7:=ja b7;clear KC H2 x2 b7 A5;simp only[List.take_succ_cons,List.take_zero,List.drop_succ_cons,List.drop_zero];still_step;still_step;still_step;still_step;refine wpStill_step (λK hK=>?_);rw[if_pos kj];refine zw 322 (.tmp 9) rfl o9 0 rfl cs _ F5 underlying322 rfl HA.a ?_;refine hK _ ?_;clear hK K;(repeat still_step);refine wpStill_nil ?_;refine cM rfl 322 (.tmp 7) (.tmp 101) rfl (q+1) 0 cs rfl rfl F6 HA.a KA.b ?_;obtain⟨w8,HB⟩:=ex (w7.setCells (q+1) 0 cs);have T8:af (· =q+1) w7 w8:=HB▸af.setCells w7 (q+1) 0 cs;have kr:=(KE.f.ext B7.a).setCells cs 0 (by rw[H9.a,dp rfl rfl];decide);rw[ck _ _ (by rw[H9.a,dp rfl rfl]),HB]at kr;rw[HB];have HC:=jb T8 kr;clear T8 kr x1 F5 F6;go_wp2;refine bodyPost_ret (v:=.tuple #[.slice Ab bl.length cb,.agg cs.toArray]) (LL cs _ results211 rfl HC.b.range underlying322 rfl HA.a rfl) rfl ?_;have E4:=HQ.a;have D0:=KE.f.ext B7.a;have Ln:∀x∈bV (.slice none 0 0) df dQ,∀z,x≠.int .u8 z:=λx hx=>by
       rw[<-uQ λ_=>0]at hx;rcases List.mem_cons.1 hx with rfl|hx
       ·simp
       ·rcases List.mem_append.1 hx with hx|hx
        ·exact(eH Im.zero x hx).1
        ·exact(iE _ _ x hx).1
      have EC:=(KE.a.below B7.a).qS HC.a D0 Ln dc dc dc om;have hT:=HC.a;have hp:=KE.e;have Lr:=KE.h.trans (B7.a.mono KE.h.size);have KD:=hp.1.ext B7.a;rw[KE.b];refine⟨Ab,cb,bl,.slice A9 n9 c9,s,p,?_,?_,?_,KE.b,λj hj=>?_,?_,?_,hT.blk KD (aR KD D0 dc),hp.2.1,hp.2.2.2.1,hT.map (hp.2.2.2.2.1.ext B7.a) (aP (hp.2.2.2.2.1.ext B7.a) D0),hT.map (hp.2.2.2.2.2.1.ext B7.a) (aP (hp.2.2.2.2.2.1.ext B7.a) D0),by omega,by omega,by omega,hp.2.2.1,KE.g,?_⟩
      ·rw[<-KA.a,JC]
      ·obtain⟨_,cx,e1,h2,_,_⟩:=bw.aG EC.row;injection e1 with _ _ e1;have:=KE.b;omega
      ·obtain⟨_,cx,e1,_,h3,_⟩:=bw.aG EC.row;injection e1 with _ _ e1;rw[aq]at h3;omega
      ·have M0:rv q wr.heap.size (q+2) w8 bl:=⟨_,_,_,_,EC⟩;have M1:j<bl.length:=(by have:=KE.b;omega);refine M0.len (j:=j) ?_;rw[List.getD_eq_getElem?_getD,List.getElem?_eq_getElem M1];rfl
      ·rw[E4];exact EC.bk
      ·rw[E4];exact Dv.aJ (aD KE.d B7.a) hT λb e h=>by subst h;exact Dv.aO (aD KE.d B7.a) D0 dc _ e rfl
      ·exact((af.aj (X:=λ_=>False) Lr).trans hT λb e=>.inr (by have e:b=q+1:=e;omega)).bm lh λ_ e=>e.elim
end
end Co
namespace Co
open Go.RowKit
open SmW (wX)
attribute [local go_sem] Oper.semAt_some
section
variable {w:World} {c:C} {f:Fi}
def l5:List Sm.En:=[⟨3,1,0,0⟩,⟨4,0,0,0⟩,⟨4,0,1,0⟩,⟨4,0,2,0⟩,⟨4,0,3,0⟩]
def sF (ob:Nat) (x:X) (m:List Im.Sl) (N:Nat) (V:World):Prop:=
 ∃bv,∃s:Nat->Nat,∃p:W,∃sm:Nat,ak V ob 322 (bV bv (ImW.ag (m.set 1 ⟨2,sm,(Im.at_ m 1).v⟩)) (bJ s))/\V.ownsRow N 153 1 bv 1 [pt p.b 0]/\ak V p.b 260 p.cells/\p.at_=2/\p.x=x/\
  ay V prog 3 p.data []/\ay V prog 3 p.nodes []/\N<=p.b/\N<=p.data/\N<=p.nodes/\p.sum=(sm:Int)/\sm<4294967296/\∀k,s k<4294967296
theorem sF.turn {ob N:Nat} {x:X} {m:List Im.Sl} {V V':World} {Y:Nat->Prop} (h:sF ob x m N V) (ht:af Y V V') (ho:¬Y ob) (hN:∀b,N<=b->¬Y b):sF ob x m N V':=by obtain⟨bv,s,p,o,h1,R,h3,h4,h5,h6,h7,U,j,I,J⟩:=h;exact⟨bv,s,p,o,ht.blk h1 ho,Dv.aJ R ht λb e=>hN b (R.lt b e).1,ht.blk h3 (hN _ U),h4,h5,ht.map h6 (hN _ j),ht.map h7 (hN _ I),U,j,I,J⟩
theorem OF (bl:List (List UInt8)) (hl:bl.length=5) (h:∀j,j<5->(bl.getD j []).length=128):wX ⟨1,0,true,l5⟩ bl=true:=by
 match bl,hl with
 |[a,b,c,d,e],_=>have I:=h 0 dc;have J:=h 1 dc;have R:=h 2 dc;have U:=h 3 dc;have o:=h 4 dc;simp at I J R U o;unfold wX;simp only[Bool.and_eq_true];exact⟨⟨rfl,by decide⟩,by simp[SmW.lP,SmW.BA,SmW.idx,l5,List.range,List.range.loop,I,J,R,U,o]⟩
theorem xP (b1 b2 ob:Nat) (h:bD w c [f]) (hwn:f.cU=none) (ty ar bN tick:Int) (hx:f.x=⟨ty,ar,bN,0,tick⟩) (hmy:Nd.aV ⟨ty,ar,bN,0,tick,List.replicate 9 (0,0)⟩=true)
 (m:List Im.Sl) (hm:m.length=40) (hs:c.aF=ImW.ag m) (hmp:c.k.maps=dQ) (hm2:∀s:Nat,s<4294967296->Im.lp m 1 (2,s)=0/\Im.qx m 1 (2,s)=m.set 1 ⟨2,s,(Im.at_ m 1).v⟩/\Im.aV (m.set 1 ⟨2,s,(Im.at_ m 1).v⟩)=true/\Im.Good (m.set 1 ⟨2,s,(Im.at_ m 1).v⟩))
 (wb wo wc:Nat) (A1 A2 A3:Option Addr) (c1 c2 c3:Nat) (hwk:∀(j:Nat) u,[i6 1,.slice A1 0 c1,.slice A2 0 c2,.slice A3 0 c3][j]? =some u->w.cell? (ae wb (wo+j))=some u) (hwb:wb<w.heap.size)
 (vs ve:Value) (hvs:Is .i64 w w.heap.size vs [0,1,2,3]) (A:Option Addr) (ca:Nat) (hat:Is .i64 w w.heap.size (.slice A 5 ca) [2,3,4,5,6])
 (k1:ak w b1 48 [pt c.g 0]) (k2:ak w b2 266 [.slice (some ⟨wb,wo,none⟩) 1 wc,vs,ve]) {co:List Value} (k3:ak w ob 322 co) (hco:co.length=129):
 Calls prog 210 #[.slice A 5 ca,pt b1 0,pt b2 0,pt ob 0] w λe w'=>∃v,e=.returned v/\A_ ob l5 (sF ob ⟨ty,ar,bN,0,tick⟩ m) w v w':=by
 have Au:=ja (BN h hwn ty ar bN tick hx hmy m hm hs hmp hm2 wb wo wc A1 A2 A3 c1 c2 c3 hwk hwb vs ve hvs A ca hat);obtain⟨B',B0,rfl,_,_,_⟩:=hvs.open_;have HK:=jc k3 hco (show b1<w.heap.size from k1.lt);have x1:=k1.cell 0;have y0:=k2.cell 0;have y1:=k2.cell 1;have y2:=k2.cell 2;clear h hx hmy hm2 hwk hvs hat k1 k2 k3 hco hs hmp;go_enter func210,ntmps210;go_wp2_with fail
 refine Au.a.mono ?_;rintro e w1 ⟨Ab,kb,bl,bv,s,p,rfl,q1,q2,q3,q4,q5,q6,q7,q8,q9,A8,A9,AI,AR,Aa,A5,Ad,Ae⟩;obtain⟨Av,cv,rfl⟩:=Dv.aX q6;obtain⟨sm,A6⟩:=ex (Crc.sum (bl.getD 0 []));have U:sm<4294967296:=by rw[<-A6];exact Crc.lD _
 have Ah:=OF bl q3 q4;rw[A6]at A5|-;obtain⟨cs,o⟩:=ex (bV (.slice Av 1 cv) (ImW.ag (m.set 1 ⟨2,sm,(Im.at_ m 1).v⟩)) (bJ s));have A7:cs.length=129:=by rw[<-o];exact dp (by rw[ImW.au,List.length_set,hm]) rfl
 have Ao:∀v∈cs,v.oneCell'=true:=λv hv=>by rw[<-o,<-JC]at hv;exact(mH (eH _) (iE _ _) v hv).2
 have Aq: (prog.info? 322).map (·.size)=some cs.length:=nH A7;rw[o];have R:=jd o A7 Ao Aq;have I:=ja (⟨q1,q2,q3,q5,q6,q7,q8,q9,A8,A9,AI,AR,Aa,A5,Ad,Ae,Ah,U⟩:_/\_/\_/\_/\_/\_/\_/\_/\_/\_/\_/\_/\_/\_/\_/\_/\_/\_);clear q1 q2 q3 q4 q5 q6 q7 q8 q9 A8 A9 AI AR Aa A5 Ad Ae A6 U Ah o A7 Ao Aq x1 y0 y1 y2;go_upto_region 2 with(refine bE rfl 322 (.tmp 7) (.tmp 14) rfl cs rfl rfl (by rw[R.b];exact Nat.le_of_eq kj) rfl R.d R.c ?_)
 have Aw: (zeroCells322).size=129:=kj;generalize zeroCells322=zc at*;have ka:=(ak.new w1 322 zc).setCells cs 0 (by rw[R.b,Array.length_toList];omega);rw[ck _ _ (by rw[R.b,Array.length_toList];omega)]at ka;have ba:=aS ((Below.refl w1.heap.size w1).alloc lh (.cells zc 322)) lh 0 cs;generalize(w1.alloc (.cells zc 322)).setCells w1.heap.size 0 cs=w2 at*;obtain⟨r,hr⟩:=ex w1.heap.size;rw[hr]at ka|-;have A0:Bw w w2:=I.a.2.2.2.2.2.2.2.2.2.2.2.2.2.2.2.1.trans (ba.mono I.a.2.2.2.2.2.2.2.2.2.2.2.2.2.2.2.1.size);have Ar:=ka.range;have As:w2.there ob 0 cs.length:=(HK.a.ext A0).there 0 _ (by rw[R.b,HK.b];decide);have HB:=jc ba A0 (HK.a.ext A0);clear ka ba A0 hr Aw;simp only[Act.put,List.setIfInBounds_toArray,List.set_cons_succ,List.set_cons_zero];go_upto_region 3 with(first|refine aw 322 (.tmp 7) rfl rfl r 0 rfl cs _ Ar underlying322 rfl R.d ?_|refine cM rfl 322 (.tmp 3) (.tmp 15) rfl ob 0 cs rfl rfl As R.d R.c ?_)
 obtain⟨w3,A4⟩:=ex (w2.setCells ob 0 cs);have T3:af (· =ob) w2 w3:=A4▸af.setCells w2 ob 0 cs;have ko:=HB.c.setCells cs 0 (by rw[R.b,HK.b];decide);rw[ck _ _ (by rw[R.b,HK.b]),A4]at ko;rw[A4];have H3:=jb T3 ko;clear T3 ko A4 As Ar;simp only[Act.put,List.setIfInBounds_toArray,List.set_cons_succ,List.set_cons_zero];go_wp2;go_ret;have Ax:=HK.a.lt;have hT:=H3.a;have A':∀b,w.heap.size<=b->¬b=ob:=λb h e=>by omega
 have J:=HB.a;refine⟨_,rfl,Ab,kb,bl,rfl,I.a.1,I.a.2.1,I.a.2.2.1,?_,I.a.2.2.2.2.2.2.2.2.2.2.2.2.2.2.2.2.1,(af.aj (X:=(· =ob)) HB.b).trans hT λ_ e=>.inl e,.slice Av 1 cv,s,p,sm,?_,?_,?_,I.a.2.2.2.2.2.2.1,I.a.2.2.2.2.2.2.2.1,?_,?_,I.a.2.2.2.2.2.2.2.2.2.2.1,I.a.2.2.2.2.2.2.2.2.2.2.2.1,I.a.2.2.2.2.2.2.2.2.2.2.2.2.1,I.a.2.2.2.2.2.2.2.2.2.2.2.2.2.1,I.a.2.2.2.2.2.2.2.2.2.2.2.2.2.2.2.2.2,I.a.2.2.2.2.2.2.2.2.2.2.2.2.2.2.1⟩
 ·exact(I.a.2.2.2.1.turn (af.aj (X:=λ_=>False) J) λ_ _ _ e=>e).turn hT λb h _=>A' b h
 ·rw[R.a];exact H3.b
 ·exact Dv.aJ (aD I.a.2.2.2.2.1 J) hT λb e=>A' b ((I.a.2.2.2.2.1.lt b e).1)
 ·exact hT.blk (I.a.2.2.2.2.2.1.ext J) (A' _ I.a.2.2.2.2.2.2.2.2.2.2.1)
 ·exact hT.map (I.a.2.2.2.2.2.2.2.2.1.ext J) (A' _ I.a.2.2.2.2.2.2.2.2.2.2.2.1)
 ·exact hT.map (I.a.2.2.2.2.2.2.2.2.2.1.ext J) (A' _ I.a.2.2.2.2.2.2.2.2.2.2.2.2.1)
end
end Co
namespace Co
open Go.RowKit
open SmW (aK da)
attribute [local go_sem] Oper.semAt_some
section
variable {w:World}
def CI (k i:Int) (ls:List Int):List Sm.En:=ls.map λz=>⟨k,i,z,0⟩
theorem H_ (a b c:Int) (V:World): (Instr.build 310 #[(0,i6 a),(1,i6 b),(2,i6 c)]).run prog V=.ok (.agg #[i6 a,i6 b,i6 c,.int .u32 0]) V:=run_build V 310 _ _ kj
def Ms (w:World) (B p:Nat) (wv sv ev:Value) (es:List Sm.En) (e:Ending) (w':World):Prop:=e=.returned (.tuple #[])/\∃A c,ak w' p 266 [wv,sv,.slice A es.length c]/\w'.ownsRow B 310 4 (.slice A es.length c) es.length (aK es)/\af (λb=>b=p\/ev.ownBlock=some b) w w'/\∀b,(Value.slice A es.length c).ownBlock=some b->ev.ownBlock=some b\/w.heap.size<=b
theorem mj (B p:Nat) (wv sv ev:Value) (es:List Sm.En) (h:ak w p 266 [wv,sv,ev]) (ho:w.ownsRow B 310 4 ev es.length (aK es)) (hB:B<=w.heap.size) (k i:Int) (v:Value) (ls:List Int) (hv:Is .i64 w w.heap.size v ls) (hls:es.length+ls.length<=50)
 (hvo:∀b,v.ownBlock=some b->b≠p/\ev.ownBlock≠some b):
 Calls prog 202 #[i6 k,i6 i,v,pt p 0] w (Ms w B p wv sv ev (es++CI k i ls)):=by
 obtain⟨Av,cv,rfl,Ab,Ad,hE⟩:=hv.open_;have H:=jd h ho hE hvo;have Ah:ls.length<=9223372036854775807:=by omega
 clear h ho hv hE hvo;go_enter func202,ntmps202;go_wp2;go_loopw [8,11] (λ_ v11 wr=>∃j:Nat,j<=ls.length/\v11=i6 (j:Int)/\∃U,ak wr p 266 [wv,sv,U]/\wr.ownsRow B 310 4 U (es.length+j) (aK (es++CI k i (ls.take j)))/\af (λb=>b=p\/ev.ownBlock=some b) w wr/\∀b,U.ownBlock=some b->ev.ownBlock=some b\/w.heap.size<=b) (λ_ v11 _=>ls.length-(intOf v11).toNat)
 case atStart=>exact⟨0,Nat.zero_le _,rfl,ev,H.a,by simpa [CI]using H.b,af.refl _ _,λb e=>.inl e⟩
 case round=>
  obtain⟨j,hj,rfl,U,kp,I,ht,A1⟩:=hrel;by_cases A4:j<ls.length
  ·obtain⟨vb,vo,rfl,AR,J⟩:=H.c j A4;have A2:=H.d vb rfl;have xj:wr.cell? (ae vb (vo+j))=some (i6 ls[j]):=(ht.cell (p:=ae vb (vo+j)) AR (λe=>e.elim A2.1 A2.2)).trans J;obtain⟨Ae,ce,rfl⟩:=Dv.aX I;have x2:wr.cell? (ae p 2)=some (.slice Ae (es.length+j) ce):=kp.cell 2;have Ao:=H_;have Aq:=ht.size;have HR:=jd kp I ht A1;have A3:ls.take (j+1)=ls.take j++[ls[j]]:=(by rw[List.take_succ,List.getElem?_eq_getElem A4];rfl);obtain⟨z,hz⟩:=ex (ls[j]);rw[hz]at xj A3;have Aa:=ja A3;clear kp I ht A1 A2 J A3 hz;(go_wp2_with(at_builtin;refine bT ?_));obtain⟨w4,e4,k4,b4,s4⟩:=ax wr 310 #[i6 k,i6 i,i6 z,.int .u32 0] _ rfl;rw[e4];obtain⟨v',w5,A',R,A6,A7⟩:=aE (P:=prog) (ty:=264) underlying264 nP rfl dc (aD HR.b b4) (k4.fe 0 1 1 4 sj lh (by rw[aq];decide)) (by intro u hu;simp at hu;rcases hu with rfl|rfl|rfl|rfl<;>rfl) (by rw[aq];omega) om (oa b4.size);refine aN rfl _ _ _ rfl rfl rfl A' ?_;obtain⟨A5,c5,rfl⟩:=Dv.aX R;have T5:af (λb=>(Value.slice Ae (es.length+j) ce).ownBlock=some b) w4 w5:=af.bt A6 λ_ e=>e;have A8:=HR.a.ext b4;have A9: (Value.slice Ae (es.length+j) ce).ownBlock≠some p:=λe=>Dv.aO HR.b HR.a dc p e rfl;have o:=T5.blk A8 A9;have f2:=o.frozen 2;have y2:=o.cell 2;have AI:∀b,(Value.slice A5 (es.length+j+1) c5).ownBlock=some b->ev.ownBlock=some b\/w.heap.size<=b:=λb e=>by
    rcases A7 with h|h
    ·exact HR.d b (h▸e)
    ·rw[h]at e;injection e with e;have:=b4.size;exact .inr om
   have TT:af (λb=>b=p\/ev.ownBlock=some b) w w5:=(HR.c.trans (af.aj (X:=λb=>b=p\/ev.ownBlock=some b) b4) λ_ e=>.inl e).trans T5 λb e=>(HR.d b e).imp .inr id;have H5:=jd o R TT AI;clear e4 k4 b4 s4 R A6 A7 A' T5 A8 A9 o AI TT x2 xj;go_wp2;have A0: (Value.slice A5 (es.length+j+1) c5).ownBlock≠some p:=λe=>Dv.aO H5.b H5.a dc p e rfl;have T6:=af.setCell w5 p 2 (.slice A5 (es.length+j+1) c5);have HZ:=jc (H5.a.aC 2 (.slice A5 (es.length+j+1) c5)) (Dv.aJ H5.b T6 λb e h=>A0 (by rw[e,h])) (H5.c.trans T6 λb e=>.inl (.inl e));clear A0 T6 f2 y2;go_roundw;case rel=>refine⟨j+1,by omega,by go_num,_,HZ.a,?_,HZ.c,H5.d⟩;have:=HZ.b;rw[Aa.a];unfold CI at this|-;rw[List.map_append,<-List.append_assoc,da];exact this
   case measure=>exact ms
  ·obtain rfl:j=ls.length:=(by omega);go_wp2;go_end0;obtain⟨Ae,ce,rfl⟩:=Dv.aX I;rw[List.take_length]at I;have hl: (es++CI k i ls).length=es.length+ls.length:=(by unfold CI;simp);refine⟨rfl,Ae,ce,?_,?_,ht,?_⟩
   ·rw[hl];exact kp
   ·rw[hl];exact I
   ·rw[hl];exact A1
end
end Co
end Go.Proofs.YtdhgejiacehpbaaGreatDoor
