import Derived.Test.YtdhgejiacehpbaaGreatDoorA04
import Derived.Lib.SmallJoins
import Derived.ChangeKeysEq
import Derived.Test.YtdhgejiacehpbaaGreatDoorRows
import Derived.Laws.Cover3
set_option maxRecDepth 100000
set_option maxHeartbeats 16000000
set_option linter.all false
namespace Go.Proofs.YtdhgejiacehpbaaGreatDoor
open Go.Proofs.Tryz
namespace Im
open Pk (iQ bO)
open Crc (pad)
def tW:Nat->List Int
 |0=>[]
 |n+1=>4::4::4::tW n
def sV (b:List Sl):List Nat:=b.flatMap λy=>[y.a.toNat,y.s,y.v.toNat]
def GF:List Int:=[4,1]++tW 10
def Jg (b:List Sl) (k:Nat):List Nat:=[1768776048,k]++sV b
def Om (b:List Sl) (k:Nat):List UInt8:=pad 128 (bO (GF.zip (Jg b k)))
def Mc (m:List Sl) (k:Nat):List UInt8:=Om (blk m k) k
theorem D4:∀n,(tW n).length=3*n
 |0=>rfl
 |n+1=>by simp only[tW,List.length_cons,D4 n];omega
theorem sh (y:Sl) (l:List Sl):sV (y::l)=y.a.toNat::y.s::y.v.toNat::sV l:=by unfold sV;rw[List.flatMap_cons];rfl
theorem Gf:∀l,(sV l).length=3*l.length
 |[]=>rfl
 |p::l=>by rw[sh];simp only[List.length_cons,Gf l];omega
theorem D6:∀(l:List Sl),(∀y∈l,mO y=true)->(∀y∈l,y.s<4294967296)->∀x∈(tW l.length).zip (sV l),iQ x=0
 |[],_,_,x,hx=>by simp[tW,sV]at hx
 |p::ps,hp,hs,x,hx=>by
  rw[sh,List.length_cons,tW,List.zip_cons_cons,List.zip_cons_cons,List.zip_cons_cons]at hx;have J:=jP (hp p List.mem_cons_self);have R:=hs p List.mem_cons_self;rcases List.mem_cons.1 hx with rfl|hx
  ·refine Pk.dy rfl ?_;simp;omega
  rcases List.mem_cons.1 hx with rfl|hx
  ·refine Pk.dy rfl ?_;simp;omega
  rcases List.mem_cons.1 hx with rfl|hx
  ·refine Pk.dy rfl ?_;simp;omega
  exact D6 ps (λq I=>hp q (List.mem_cons_of_mem _ I)) (λq I=>hs q (List.mem_cons_of_mem _ I)) x hx
theorem GL {b:List Sl} (h:b.length=10) (k:Nat): (Jg b k).length=GF.length:=by unfold Jg GF;simp only[List.length_append,Gf,D4,h];rfl
theorem LO {b:List Sl} (hl:b.length=10) (k:Nat) (hk:k<256) (hb:∀y∈b,mO y=true) (hs:∀y∈b,y.s<4294967296):∀y∈GF.zip (Jg b k),iQ y=0:=by
 intro y hy;unfold GF Jg at hy;rw[Nd.eK _ _ _ _ rfl]at hy;rcases List.mem_append.1 hy with hy|hy
 ·simp only[List.zip_cons_cons,List.zip_nil_right,List.mem_cons,List.not_mem_nil,or_false]at hy;rcases hy with rfl|rfl<;>refine Pk.dy rfl ?_<;>simp<;>omega
 ·rw[<-hl]at hy;exact D6 b hb hs y hy
theorem Ac {b:List Sl} (h:b.length=10) (k:Nat): (bO (GF.zip (Jg b k))).length=125:=Cd.fh GF _ (GL h k)
theorem GW {b:List Sl} (h:b.length=10) (k:Nat): (Om b k).length=128:=Crc.dA _ _ (by rw[Ac h];omega)
theorem AB {m:List Sl} {k:Nat} {x:Sl} (h:x∈blk m k):x∈m:=List.mem_of_mem_drop (List.mem_of_mem_take h)
end Im
section
open Go.RowKit
def ee (w:World) (B:Nat) (v:Value) (l:List (Int×Nat)):Prop:=bw w B 2 v l.length (l.flatMap λx=>[i6 x.1,.int .u64 (x.2:Int)])
theorem rS (l:List (Int×Nat)): (l.flatMap λx=>[i6 x.1,Value.int .u64 (x.2:Int)]).length=l.length*2:=by
 induction l with
 |nil=>rfl
 |cons x l ih=>rw[List.flatMap_cons,List.length_append,ih,List.length_cons,List.length_cons,List.length_cons,List.length_nil];omega
theorem Ex:∀(l:List (Int×Nat)) (k:Nat) (h:k<l.length),(l.flatMap λx=>[i6 x.1,Value.int .u64 (x.2:Int)])[k*2]? =some (i6 l[k].1)/\(l.flatMap λx=>[i6 x.1,Value.int .u64 (x.2:Int)])[k*2+1]? =some (.int .u64 (l[k].2:Int))
 |x::l,0,_=>⟨rfl,rfl⟩
 |x::l,k+1,h=>by have:=Ex l k (by simpa using h);rw[List.flatMap_cons,show(k+1)*2=k*2+1+1 by omega];exact this
theorem ee.open_ {w:World} {B:Nat} {v:Value} {l:List (Int×Nat)} (h:ee w B v l):∃(A:Option Addr) (c:Nat),v=.slice A l.length c/\l.length<=c/\c<=9223372036854775807/\
 ∀(j:Nat) (hj:j<l.length),∃b off,A=some ⟨b,off,none⟩/\b<B/\w.cell? (ae b (off+j*2))=some (i6 l[j].1)/\w.cell? (ae b (off+j*2+1))=some (.int .u64 (l[j].2:Int)):=by
 obtain⟨A,c,J,R,U,h4,o⟩:=h;refine⟨A,c,J,R,U,λj hj=>?_⟩;obtain⟨b,off,e,hb,I⟩:=o om;have:=Ex l j hj;exact⟨b,off,e,hb,I _ _ this.1,by have:=I _ _ this.2;rw[Nat.add_assoc];exact this⟩
theorem ee.lit (w:World) (t:TypeId) (a:Array Value) (l:List (Int×Nat)) (n:Nat) (ha:a.toList=l.flatMap λx=>[i6 x.1,.int .u64 (x.2:Int)]) (hn:n=l.length) (hm:n<=maxLen):
 ee (w.alloc (.cells a t)) (w.heap.size+1) (.slice (some ⟨w.heap.size,0,none⟩) n n) l:=by
 have:=(ak.new w t a).fe 0 n n 2 (by rw[ha,rS];omega) lh hm;subst hn;unfold ee;rw[ha,List.drop_zero,List.take_of_length_le (by rw[rS];omega)]at this;exact this
def Us (w:World) (B:Nat) (v:Value) (l:List Nat):Prop:=bw w B 1 v l.length (l.map λn:Nat=>.int .u64 (n:Int))
theorem Us.aG {w:World} {base:Nat} {e:TypeId} {v:Value} {l:List Nat} (h:w.ownsRow base e 1 v l.length (l.map λn:Nat=>.int .u64 (n:Int))):Us w w.heap.size v l:=bw.aG h
theorem fw (n:Int) (w:World):
 Calls prog 197 #[i6 n] w λe w'=>e=.returned (.bool (Pk.nK n))/\w=w':=by
 by_cases h:1<=n
 ·have H:=ja (show Pk.nK n=decide (n<=8) by unfold Pk.nK;simp[h]);go_enter func197,ntmps197;go_wp2;go_ret;exact⟨by rw[H.a];rfl,rfl⟩
 ·have H:=ja (show Pk.nK n=false by unfold Pk.nK;simp[h]);go_enter func197,ntmps197;go_wp2;go_ret;exact⟨by rw[H.a];rfl,rfl⟩
theorem IX {w:World} {base:Nat} {e:TypeId} {v:Value} {n n':Nat} {xs:List Value} {c c':Value} (h:w.ownsRow base e 1 v n (xs++[c])) (hn:n=n') (hc:c=c'):w.ownsRow base e 1 v n' (xs++[c']):=by subst hn hc;exact h
theorem ic (w:World) (v:Value) (B:Nat) (l:List (Int×Nat)) (h:ee w B v l) (hB:B<=w.heap.size) (hn:l.length<=100000) (hu:∀x∈l,x.2<18446744073709551616):
 Calls prog 149 #[v] w λe w'=>∃u,e=.returned (.tuple #[u,i6 (Pk.nF l:Nat)])/\w'.ownsRow w.heap.size 5 1 u (Pk.packed l).length ((Pk.packed l).map λc=>.int .u8 (c.toNat:Int))/\Bw w w':=by
 obtain⟨A,c,rfl,hc,hm,A0⟩:=h.open_;clear h;go_enter func149,ntmps149;go_wp2;go_loopw [4,13] (λs i wr=>∃k:Nat,k<=l.length/\i=i6 k/\(∀x∈l.take k,Pk.iQ x=0)/\s=i6 ((Pk.bO (l.take k)).length:Nat)/\Bw w wr) (λ_ i _=>l.length-(intOf i).toNat)
 case atStart=>exact⟨0,Nat.zero_le _,rfl,by simp,rfl,Below.refl _ _⟩
 case round=>
  obtain⟨k,hk,rfl,J,rfl,U⟩:=hrel;by_cases A':k<l.length
  ·obtain⟨b,off,rfl,hb,A2,A3⟩:=A0 k A';have A6:=cl U (Nat.lt_of_lt_of_le hb hB) A2;have A7:=cl U (Nat.lt_of_lt_of_le hb hB) A3;have hv:=hu l[k] (List.getElem_mem A');have HE:=ja (Pk.z_ l k l[k] J (List.getElem?_eq_getElem A'));have HS:=ja (Pk.qq A' J);have HR:=ja (Pk.rK l k A');have Ad:=Pk.jH (l.take k) J;have Aw: (l.take k).length<=100000:=(by rw[List.length_take];omega);clear J A2 A3 A0 hu;generalize hx:l[k]=x at*;obtain⟨wd,vv⟩:=x;simp only at A6 A7 hv;generalize hR: (Pk.bO (l.take k)).length=R at*;have AI:=ja hR;have B5:R<=800000:=(by omega);clear hx hR Ad;by_cases hw:Pk.nK wd=true
   ·have B6:=(Pk.nI wd).1 hw;obtain⟨wn,rfl⟩:=Int.eq_ofNat_of_zero_le (show 0<=wd by omega);by_cases o:vv<256^wn
    ·have hs: ((vv:Int)/2^(8*wn) != 0)=false:=(by rw[Pk.vC];simp[o]);have HC:=ja (Pk.dy (x:=((wn:Int),vv)) hw (by simpa using o));have Hw:=ja hw;clear hw o;(go_wp2_with fail);refine(fw _ _).mono ?_;rintro e w' ⟨rfl,rfl⟩;rw[Hw.a];by_cases h8:wn<8
     ·have Ae: (wn:Int)<8:=(by omega);go_wp2;go_roundw;case rel=>exact⟨k+1,by omega,by go_num,HS.a HC.a,by rw[HR.a,List.length_append,AI.a];unfold Pk.tZ;rw[Pk.fQ];go_num,U.alloc U.size _⟩
      case measure=>exact ms
     ·have Ae:¬(wn:Int)<8:=(by omega);go_wp2;go_roundw;case rel=>exact⟨k+1,by omega,by go_num,HS.a HC.a,by rw[HR.a,List.length_append,AI.a];unfold Pk.tZ;rw[Pk.fQ];go_num,U.alloc U.size _⟩
      case measure=>exact ms
    ·have hs: ((vv:Int)/2^(8*wn) != 0)=true:=(by rw[Pk.vC];simp[o]);have HC:=ja (Pk.EM (x:=((wn:Int),vv)) hw (by simpa using o));have HP:=ja (HE.a (by rw[HC.a];decide));rw[HC.a]at HP;have HK:=ja (Pk.pT (l:=l) (by rw[HP.a];decide));have Hw:=ja hw;have h8:wn<8:=by
      rcases Nat.lt_or_ge wn 8 with h|h
      ·exact h
      ·exfalso;obtain rfl:wn=8:=(by omega);exact o hv
     have Ae: (wn:Int)<8:=(by omega);clear hw o;(go_wp2_with fail);refine(fw _ _).mono ?_;rintro e w' ⟨rfl,rfl⟩;rw[Hw.a];go_wp2;go_ret2;exact⟨_,by rw[HP.a];rfl,by rw[HK.a];exact World.ownsRow_nil _ _ _ _,U.alloc U.size _⟩
   ·have AR:Pk.nK wd=false:=(by simpa using hw);have HC:=ja (Pk.CE (x:=(wd,vv)) AR);have HP:=ja (HE.a (by rw[HC.a];decide));rw[HC.a]at HP;have HK:=ja (Pk.pT (l:=l) (by rw[HP.a];decide));have Hw:=ja AR;clear hw AR;(go_wp2_with fail);refine(fw _ _).mono ?_;rintro e w' ⟨rfl,rfl⟩;rw[Hw.a];go_wp2;go_ret2;exact⟨_,by rw[HP.a];rfl,by rw[HK.a];exact World.ownsRow_nil _ _ _ _,U.alloc U.size _⟩
  ·obtain rfl:k=l.length:=(by omega);rw[List.take_length]at J|-;have HP:=ja (Pk.iM J);have Ax:=ja (show Pk.packed l=Pk.bO l by unfold Pk.packed;rw[if_pos HP.a]);have Ad:=Pk.jH l J;have HC:=ja J;have HU:=ja hu;clear J hu;generalize hR: (Pk.bO l).length=R at*;have AI:=ja hR;clear hR;have Ah:=run_mk (P:=prog) underlying23 oC 0 R om om om;simp only[Int.natCast_zero]at Ah;go_wp2;clear Ah;have A4:=World.ownsRow_made (e:=5) (size:=1) (base:=w.heap.size) wr (madeCells #[.int .u8 0] R) R U.size (by rw[aq];omega) (by rw[size_madeCells,Nat.mul_one]);have Ao:=U.alloc U.size (.cells (madeCells #[.int .u8 0] R) 5);generalize wr.alloc (.cells (madeCells #[.int .u8 0] R) 5)=W0 at*;(go_loopw [7,42] (λx i wq=>∃k:Nat,k<=l.length/\i=i6 k/\wq.ownsRow w.heap.size 5 1 x (Pk.bO (l.take k)).length ((Pk.bO (l.take k)).map λc=>.int .u8 (c.toNat:Int))/\Bw w wq) (λ_ i _=>l.length-(intOf i).toNat));case atStart=>exact⟨0,Nat.zero_le _,rfl,A4,Ao⟩
   case round=>
    obtain⟨k,hk,rfl,I,A1⟩:=hrel;clear A4 Ao;by_cases A':k<l.length
    ·obtain⟨b,off,rfl,hb,A2,A3⟩:=A0 k A';have A6:=cl A1 (Nat.lt_of_lt_of_le hb hB) A2;have A7:=cl A1 (Nat.lt_of_lt_of_le hb hB) A3;have hv:=HU.a l[k] (List.getElem_mem A');have B':=Pk.lR (HC.a l[k] (List.getElem_mem A'));have HR:=ja (Pk.rK l k A');have B0:=Pk.jH (l.take k) (λx hx=>HC.a x (List.mem_of_mem_take hx));have Aw: (l.take k).length<=100000:=(by rw[List.length_take];omega);clear A2 A3 A0;generalize hx:l[k]=x at*;obtain⟨wd,vv⟩:=x;simp only at A6 A7 hv B';obtain⟨wn,rfl⟩:=Int.eq_ofNat_of_zero_le (show 0<=wd by omega);generalize Aq:Pk.bO (l.take k)=rr at*;have B7:=ja Aq;have B4:rr.length<=800000:=(by omega);clear hx Aq B0;go_wp2;have Ar:=ak.new wr 200 #[i6 wn,.int .u64 vv];have A5:=I.alloc (.cells #[i6 wn,.int .u64 vv] 200);have As:=A1.alloc A1.size (.cells #[i6 wn,.int .u64 vv] 200);generalize wr.alloc (.cells #[i6 wn,.int .u64 vv] 200)=W1 at*;generalize wr.heap.size=gg at*;clear I A1 A6 A7;(go_loopw [7,48] (λx i ws=>∃j:Nat,j<=wn/\i=i6 j/\ws.ownsRow w.heap.size 5 1 x (rr.length+j) ((rr++(Pk.be vv wn).take j).map λc=>.int .u8 (c.toNat:Int))/\Bw w ws/\ak ws gg 200 [i6 wn,.int .u64 vv]) (λ_ i _=>wn-(intOf i).toNat));case atStart=>exact⟨0,Nat.zero_le _,rfl,by simpa using A5,As,Ar⟩
     case round=>
      obtain⟨j,hj,rfl,I,A8,A9⟩:=hrel;clear A5 As Ar;have Au:=A9.cell 0;have Av:=A9.cell 1;simp only[List.getElem?_cons_zero,List.getElem?_cons_succ]at Au Av;by_cases B1:j<wn
      ·(go_wp2_with(at_builtin;refine bT ?_));refine jv rfl _ _ rfl rfl rfl rfl underlying23 oC rfl I rfl (by rw[aq];omega) om A8.size ?_;intro v' w' Aa Ab;have B2:=A9.grown Ab (aW I A9 dc);have B3:=A8.grown Ab A8.size (λg hg=>(I.lt g hg).1);have H:=ja (Pk.Iy vv wn j B1);clear I Ab Au Av;go_wp2;go_roundw;case rel=>refine⟨j+1,by omega,by go_num,?_,B3,B2⟩;rw[H.a,<-List.append_assoc,List.map_append];exact IX Aa om (by rw[Pk.D1])
       case measure=>exact ms
      ·obtain rfl:j=wn:=(by omega);go_wp2;go_roundw;case rel=>refine⟨k+1,by omega,by go_num,?_,A8⟩;rw[HR.a];unfold Pk.tZ;simp only[Int.toNat_natCast];rw[List.length_append,Pk.fQ];rw[List.take_of_length_le (by rw[Pk.fQ];omega)]at I;exact I
       case measure=>exact ms
    ·obtain rfl:k=l.length:=(by omega);rw[List.take_length]at I;go_wp2;go_ret2;exact⟨_,by rw[HP.a];rfl,by rw[Ax.a];exact I,A1⟩
theorem AF: (prog.info? 198).map (λi=>(i.zero,i.size,i.bytes))=some (some (.int .u64 0),1,8):=by kernel_rfl
theorem nY (w:World) (v u:Value) (B:Nat) (l:List UInt8) (ws:List Int) (h:Bs w B v l) (hu:Is .i64 w B u ws) (hB:B<=w.heap.size) (hn:ws.length<=100000):
 Calls prog 229 #[v,u] w λe w'=>∃x,e=.returned (.tuple #[x,i6 (Pk.mu l ws:Nat)])/\w'.ownsRow w.heap.size 198 1 x (Pk.dB l ws).length ((Pk.dB l ws).map λn:Nat=>.int .u64 (n:Int))/\Bw w w':=by
 obtain⟨A,c,rfl,hc,hm,A'⟩:=h.rP;obtain⟨A1,c1,rfl,Av,Aw,J⟩:=hu.open_;clear h hu;go_enter func229,ntmps229;go_wp2;go_loop [6,17] (λs i=>∃k:Nat,k<=ws.length/\i=i6 k/\(∀x∈ws.take k,Pk.nK x=true)/\s=i6 (Pk.db (ws.take k):Nat)) (λ_ i=>ws.length-(intOf i).toNat)
 case atStart=>exact⟨0,Nat.zero_le _,rfl,by simp,rfl⟩
 case round=>
  obtain⟨k,hk,rfl,I,rfl⟩:=hrel;by_cases U:k<ws.length
  ·obtain⟨b,off,rfl,hb,hx⟩:=J k U;have Ah:=Pk.nS (ws.take k) I;have Ax: (ws.take k).length<=100000:=(by rw[List.length_take];omega);have HN:=ja (Pk.ru ws k U);have HA:=ja I;generalize A6:ws[k]=wd at*;have HW:=ja A6;generalize Pk.db (ws.take k)=R at*;clear I J A' A6;by_cases hw:Pk.nK wd=true
   ·have Ao:=(Pk.nI wd).1 hw;obtain⟨wn,rfl⟩:=Int.eq_ofNat_of_zero_le (show 0<=wd by omega);have Hw:=ja hw;clear hw;(go_wp2_with fail);refine(fw _ _).mono ?_;rintro e w' ⟨rfl,rfl⟩;rw[Hw.a];go_wp2;go_round;case rel=>
     refine⟨k+1,by omega,by go_num,?_,by rw[HN.a];simp⟩;intro x hx;rw[List.take_succ_eq_append_getElem U]at hx;rcases List.mem_append.1 hx with hx|hx
     ·exact HA.a x hx
     ·rw[List.mem_singleton.1 hx,HW.a];exact Hw.a
    case measure=>exact ms
   ·have A4:Pk.nK wd=false:=(by simpa using hw);have HE:=ja (show Pk.mu l ws=1 by unfold Pk.mu;rw[if_neg];intro hh;rw[List.all_eq_true]at hh;have:=hh ws[k] (List.getElem_mem U);rw[HW.a,A4]at this;cases this);have HK:=ja (show Pk.dB l ws=[] by unfold Pk.dB;rw[HE.a];rfl);have Hw:=ja A4;clear hw A4;(go_wp2_with fail);refine(fw _ _).mono ?_;rintro e w' ⟨rfl,rfl⟩;rw[Hw.a];go_wp2;go_ret2;exact⟨_,by rw[HE.a];rfl,by rw[HK.a];exact World.ownsRow_nil _ _ _ _,Below.refl _ _⟩
  ·obtain rfl:k=ws.length:=(by omega);rw[List.take_length]at I|-;have Ah:=Pk.nS ws I;have A3:=ja (show ws.all Pk.nK=true by rw[List.all_eq_true];exact I);have HA:=ja I;clear I;by_cases A7:l.length<Pk.db ws
   ·have HE:=ja (show Pk.mu l ws=2 by unfold Pk.mu;rw[A3.a,if_pos A7];rfl);have HK:=ja (show Pk.dB l ws=[] by unfold Pk.dB;rw[HE.a];rfl);generalize Pk.db ws=R at*;have A8: (l.length:Int)<R:=(by omega);go_wp2;go_ret2;exact⟨_,by rw[HE.a];rfl,by rw[HK.a];exact World.ownsRow_nil _ _ _ _,Below.refl _ _⟩
   ·have HE:=ja (show Pk.mu l ws=0 by unfold Pk.mu;rw[A3.a,if_neg A7];rfl);have HK:=ja (show Pk.dB l ws=Pk.dJ l ws by unfold Pk.dB;rw[HE.a];rfl);have Aq:=ja (λk=>Pk.rW ws k);have A9:=run_mk (P:=prog) underlying342 AF 0 ws.length om om om;simp only[Int.natCast_zero]at A9;generalize Pk.db ws=R at*;have A8:¬(l.length:Int)<R:=(by omega);go_wp2;clear A9;have A2:=World.ownsRow_made (e:=198) (size:=1) (base:=w.heap.size) w (madeCells #[.int .u64 0] ws.length) ws.length lh (by rw[aq];omega) (by rw[size_madeCells,Nat.mul_one]);have AI:=(Below.refl w.heap.size w).alloc lh (.cells (madeCells #[.int .u64 0] ws.length) 198);generalize w.alloc (.cells (madeCells #[.int .u64 0] ws.length) 198)=W0 at*;(go_loopw [9,10,37] (λx p i wq=>∃k:Nat,k<=ws.length/\i=i6 k/\p=i6 (Pk.db (ws.take k):Nat)/\wq.ownsRow w.heap.size 198 1 x k ((Pk.dJ l (ws.take k)).map λn:Nat=>.int .u64 (n:Int))/\Bw w wq) (λ_ _ i _=>ws.length-(intOf i).toNat));case atStart=>exact⟨0,Nat.zero_le _,rfl,rfl,A2,AI⟩
    case round=>
     obtain⟨k,hk,rfl,rfl,o,A0⟩:=hrel;clear A2 AI;by_cases U:k<ws.length
     ·obtain⟨b1,Au,rfl,Ar,hx⟩:=J k U;have B':=cl A0 (Nat.lt_of_lt_of_le Ar hB) hx;have Ao:=(Pk.nI _).1 (HA.a ws[k] (List.getElem_mem U));have HN:=ja (Pk.ru ws k U);have HS:=ja (Pk.BR l ws k U);have AR:=Aq.a (k+1);rw[HN.a]at AR;generalize ws[k]=wd at*;obtain⟨wn,rfl⟩:=Int.eq_ofNat_of_zero_le (show 0<=wd by omega);rw[Int.toNat_natCast]at AR HN HS;generalize Aa:Pk.db (ws.take k)=Nd at*;have B0:=ja Aa;clear J hx Aa;go_wp2;(go_loop [13,42] (λx i=>∃j:Nat,j<=wn/\i=i6 j/\x=.int .u64 (Pk.val ((l.drop Nd).take j):Nat)) (λ_ i=>wn-(intOf i).toNat));case atStart=>exact⟨0,Nat.zero_le _,rfl,rfl⟩
      case round=>
       obtain⟨j,hj,rfl,rfl⟩:=hrel;by_cases B1:j<wn
       ·obtain⟨b,off,rfl,hb,Ab⟩:=A' (Nd+j) om;have B2:=cl A0 (Nat.lt_of_lt_of_le hb hB) Ab;have Ad:=Pk.CP ((l.drop Nd).take j) (by rw[List.length_take];omega);have HV:=ja (Pk.Ev (l.drop Nd) j (by rw[List.length_drop];omega));rw[show(l.drop Nd).getD j 0=l.getD (Nd+j) 0 by simp[List.getD_eq_getElem?_getD]]at HV;generalize l.getD (Nd+j) 0=ch at*;generalize Pk.val ((l.drop Nd).take j)=V at*;have e1:=Pk.Il V ch.toNat Ad ch.toNat_lt;have B3:ch.toNat<256:=ch.toNat_lt;clear A' Ab;go_wp2;go_round;case rel=>exact⟨j+1,by omega,by go_num,by rw[HV.a];go_num⟩
        case measure=>exact ms
       ·obtain rfl:j=wn:=(by omega);have Ad:Pk.val ((l.drop Nd).take j)<18446744073709551616:=(by have h1:=Pk.DV ((l.drop Nd).take j);have h2:256^((l.drop Nd).take j).length<=256^8:=Nat.pow_le_pow_right om (by rw[List.length_take];omega);omega);generalize Pk.val ((l.drop Nd).take j)=V at*;(go_wp2_with(at_builtin;refine bT ?_));refine jv rfl _ _ rfl rfl rfl rfl underlying342 AF rfl o rfl (by rw[aq];omega) om A0.size ?_;intro v' w' A5 Ae;have As:=A0.grown Ae A0.size (λg hg=>(o.lt g hg).1);clear o Ae;go_wp2;go_roundw;case rel=>exact⟨k+1,by omega,by go_num,by rw[HN.a];go_num,by rw[HS.a,List.map_append];exact A5,As⟩
        case measure=>exact ms
     ·obtain rfl:k=ws.length:=(by omega);rw[List.take_length]at o;go_wp2;go_ret2;exact⟨_,by rw[HE.a];rfl,by rw[HK.a,Pk.vI];exact o,A0⟩
def mW:Array Value:=madeCells #[.int .u8 0] 128
theorem oG:mW.toList=(Pk.pad 128 []).map λc=>Value.int .u8 (c.toNat:Int):=by unfold mW Pk.pad;rw[toList_madeCells_one,List.nil_append,List.map_replicate];rfl
theorem LZ (W:World): (Instr.makeSlice 23 (i6 128) (i6 128)).run prog W=.ok (.slice (some ⟨W.heap.size,0,none⟩) 128 128) (W.alloc (.cells mW 5)):=by kernel_rfl
theorem na (l:List UInt8):∀u∈l.map (λc=>Value.int .u8 (c.toNat:Int)),u.oneCell'=true:=by intro u hu;obtain⟨c,_,rfl⟩:=List.mem_map.1 hu;rfl
theorem EJ (w:World) (v:Value) (B:Nat) (l:List UInt8) (h:Bs w B v l) (hB:B<=w.heap.size) (hl:l.length<=128):
 Calls prog 291 #[v] w λe w'=>e=.returned (.tuple #[.slice (some ⟨w.heap.size,0,none⟩) 128 128,i6 0])/\ak w' w.heap.size 5 ((Pk.pad 128 l).map λc=>.int .u8 (c.toNat:Int))/\Bw w w':=by
 obtain⟨A,c,rfl,hc,hm,J⟩:=h.rP;clear J;have A3:¬(128:Int)<(l.length:Int):=by omega
 have A0:=LZ;go_enter func291,ntmps291;go_wp2;clear A0;have R:Bw w (w.alloc (.cells mW 5)):=bh.alloc lh _;have U:=ak.new w 5 mW;have j:Bs (w.alloc (.cells mW 5)) B (.slice A l.length c) l:=h.ext hB R;generalize w.alloc (.cells mW 5)=W1 at*;obtain⟨W2,o,A',I⟩:=iC (P:=prog) U (c':=128) (n:=128) 23 3 5 underlying23 kj j (na l) om (by rw[oG];rfl);rw[o];clear o;have A1:=I _ _ lh R;have A2:=ja A';clear A' I U j R;go_wp2;go_ret2;refine⟨rfl,?_,A1⟩;have e: (l.map λc=>Value.int .u8 (c.toNat:Int))++mW.toList.drop l.length=(Pk.pad 128 l).map λc=>.int .u8 (c.toNat:Int):=by rw[oG,<-List.map_drop,<-List.map_append];unfold Pk.pad;rw[List.nil_append,List.drop_replicate];rfl
 rw[<-e];exact A2.a
end
section
open Go.RowKit Go.ChangeShapes Go.WideShapes Go.ChangeAt
def iu (P:Program):Nat->Nat->TypeId->List (Nat×TypeId)
 |0,off,t=>[(off,t)]
 |d+1,off,t=>match P.underlying t with
  |some (.struct fs)=>fs.toList.flatMap λf=>iu P d (off+f.offset) f.type
  |some (.array n e)=>(List.range n).flatMap λi=>iu P d (off+i*P.cellsOf e) e
  |_=>[(off,t)]
section
variable {H:Type} {enc:TypeId×Value->H} {P:Program} {w:World} {base:Nat} {spare:Nat->Bool} {held:Bool}
theorem Ig:∀(d:Nat) (t:TypeId) (fuel:Nat) (cs:List Value) (x:DataW H×List MemPlace) (off:Nat),DataW.trod enc P w base spare held fuel t cs=some x->∀p∈iu P d off t,
 off<=p.1/\∃(n:Nat) (y:DataW H×List MemPlace) (cs':List Value),DataW.trod enc P w base spare held n p.2 cs'=some y/\∀(i:Nat) (v:Value),cs'[i]? =some v->cs[p.1-off+i]? =some v:=by
 intro d;induction d with
 |zero=>intro t fuel cs x off h p hp;simp only[iu,List.mem_singleton]at hp;subst hp;exact⟨Nat.le_refl _,fuel,x,cs,h,λi v J=>by simpa using J⟩
 |succ d ih=>
  intro t fuel cs x off h p hp;unfold iu at hp;split at hp
  ·rename_i fs hu;obtain⟨f,hf,R⟩:=List.mem_flatMap.1 hp;obtain⟨xs,n,_,_,_,hlen,hg⟩:=DataW.trod_struct hu h;obtain⟨j,hj⟩:=List.mem_iff_getElem?.1 hf;have U:fs[j]? =some f:=(by rw[<-Array.getElem?_toList];exact hj);have o:=hg j f U;have A':j<xs.length:=(by rw[hlen];exact(Array.getElem?_eq_some_iff.1 U).1);rw[List.getElem?_eq_getElem A']at o;obtain⟨hle,n',y,cs',ht,hc⟩:=ih f.type n _ _ (off+f.offset) o p R;refine⟨by omega,n',y,cs',ht,λi v J=>?_⟩;have I:=hc i v J;rw[List.getElem?_take]at I;split at I
   ·rw[List.getElem?_drop]at I;rw[<-I];congr 1;omega
   ·cases I
  ·rename_i m e hu;obtain⟨k,hk,R⟩:=List.mem_flatMap.1 hp;obtain⟨xs,n,_,_,_,hlen,hg⟩:=DataW.trod_array hu h;have A0:=List.mem_range.1 hk;have o:=hg k A0;rw[List.getElem?_eq_getElem om]at o;obtain⟨hle,n',y,cs',ht,hc⟩:=ih e n _ _ (off+k*P.cellsOf e) o p R;refine⟨by omega,n',y,cs',ht,λi v J=>?_⟩;have I:=hc i v J;rw[List.getElem?_take]at I;split at I
   ·rw[List.getElem?_drop]at I;rw[<-I];congr 1;omega
   ·cases I
  ·simp only[List.mem_singleton]at hp;subst hp;exact⟨Nat.le_refl _,fuel,x,cs,h,λi v J=>by simpa using J⟩
end
end
section
open Go.RowKit
def uC (P:Program):List Field->Nat->Option Nat
 |[],o=>some o
 |f::fs,o=>if f.offset=o then uC P fs (o+P.cellsOf f.type)else none
def mP (P:Program):Nat->TypeId->Bool
 |0,_=>false
 |d+1,t=>match P.underlying t with
  |some (.int _)=>P.cellsOf t==1
  |some (.struct fs)=> !P.stoodInHeld t&&((P.info? t).isSome&&(uC P fs.toList 0==some (P.cellsOf t)&&fs.toList.all λf=>f.name != "_" &&mP P d f.type))
  |some (.array n e)=>(P.info? t).isSome&&((P.info? e).isSome&&(n*P.cellsOf e==P.cellsOf t&&mP P d e))
  |_=>false
def Ef (P:Program) (t:TypeId) (cs:List Value):Value:=match P.underlying t with
 |some (.int _)=>cs.headD undef
 |_=>.agg cs.toArray
def kH (cs ds:List Value):Prop:=∀(j:Nat) a b,cs[j]? =some a->ds[j]? =some b->∃k m n,a=Value.int k m/\b=Value.int k n
theorem kH.Oo {cs ds:List Value} (h:kH cs ds) (o n:Nat):kH ((cs.drop o).take n) ((ds.drop o).take n):=by
 intro j a b ha I;rw[List.getElem?_take]at ha I;split at ha
 ·rename_i hj;rw[if_pos hj]at I;rw[List.getElem?_drop]at ha I;exact h _ a b ha I
 ·cases ha
section
variable {P:Program}
theorem lL {d:Nat} {t:TypeId} (h:mP P d t=true) (xs:Array Value) (off:Nat) (ho:off+P.cellsOf t<=xs.size) (w:World): (part t xs off).run P w=.ok (Ef P t ((xs.toList.drop off).take (P.cellsOf t))) w:=by
 cases d with
 |zero=>cases h
 |succ d=>
  unfold mP at h;unfold Ef;split at h
  ·rename_i k hu;rw[hu];simp only;have I:P.cellsOf t=1:=(by simpa using h);rw[I]at ho|-;have hx:xs[off]? =some xs[off]:=Array.getElem?_eq_getElem om;simp only[part,isAgg,Sem.run_bind,run_underlying hu,Result.andThen_ok,Sem.run_pure,Bool.false_eq_true,if_false,hx];congr 1;rw[List.headD_eq_head?_getD,List.head?_take,if_neg dc,List.head?_drop];rw[Array.getElem?_toList,hx];rfl
  ·rename_i fs hu;rw[hu];simp only[Bool.and_eq_true]at h;obtain⟨i,hi⟩:=Option.isSome_iff_exists.1 h.2.1;simp only[part,isAgg,Sem.run_bind,run_underlying hu,Result.andThen_ok,Sem.run_pure,if_true,run_sizeOf w hi];congr 2;apply Array.toList_inj.1;simp[List.extract]
  ·rename_i n e hu;rw[hu];simp only[Bool.and_eq_true]at h;obtain⟨i,hi⟩:=Option.isSome_iff_exists.1 h.1;simp only[part,isAgg,Sem.run_bind,run_underlying hu,Result.andThen_ok,Sem.run_pure,if_true,run_sizeOf w hi];congr 2;apply Array.toList_inj.1;simp[List.extract]
  ·cases h
def Kz (P:Program) (d x:Nat) (t:TypeId):Prop:=∀(w:World) (cs ds:List Value),cs.length=P.cellsOf t->ds.length=P.cellsOf t->kH cs ds->
 ∃r:Bool,(Op.equalIn (d+x) t (Ef P t cs) (Ef P t ds)).run P w=.ok r w/\(r=true↔cs=ds)
theorem zH {d x:Nat} (xs ys:Array Value) (hk:kH xs.toList ys.toList) (hs:xs.size=ys.size):∀(fs:List Field) (o:Nat),uC P fs o=some xs.size->(∀f∈fs,f.name≠ "_" /\mP P d f.type=true/\Kz P d x f.type)->∀w:World,
 ∃r:Bool,(Op.eqFields (d+x) xs ys fs).run P w=.ok r w/\(r=true↔xs.toList.drop o=ys.toList.drop o)
 |[],o,ht,_,w=>by simp only[uC,Option.some.injEq]at ht;refine⟨true,by simp[Op.eqFields],?_⟩;rw[List.drop_eq_nil_of_le (by simp;omega),List.drop_eq_nil_of_le (by simp;omega)];simp
 |f::fs,o,ht,hall,w=>by
  unfold uC at ht;split at ht
  ·rename_i hfo;have hle:∀(gs:List Field) (j m:Nat),uC P gs j=some m->j<=m:=by
    intro gs;induction gs with
    |nil=>intro j m hm;simp only[uC,Option.some.injEq]at hm;omega
    |cons g gs ih=>
     intro j m hm;unfold uC at hm;split at hm
     ·have:=ih _ _ hm;omega
     ·cases hm
   have A':=hle _ _ _ ht;obtain⟨hn,hc,he⟩:=hall f List.mem_cons_self;obtain⟨r',A0,R⟩:=zH xs ys hk hs fs _ ht (λg hg=>hall g (List.mem_cons_of_mem _ hg)) w;have p1:=lL hc xs f.offset om w;have p2:=lL hc ys f.offset om w;obtain⟨r,hr,J⟩:=he w _ _ (by rw[List.length_take,List.length_drop,Array.length_toList];omega) (by rw[List.length_take,List.length_drop,Array.length_toList];omega) (hk.Oo f.offset (P.cellsOf f.type));have I:∀(l:List Value) (n:Nat),l.drop o=(l.drop o).take n++l.drop (o+n):=λl n=>(by rw[<-List.drop_drop];exact(List.take_append_drop _ _).symm);simp only[Op.eqFields,hn,ne_eq,not_false_eq_true,if_true,Sem.run_bind,p1,p2,hr,Result.andThen_ok];have U: (xs.toList.drop o=ys.toList.drop o)↔((xs.toList.drop f.offset).take (P.cellsOf f.type)=(ys.toList.drop f.offset).take (P.cellsOf f.type)/\xs.toList.drop (o+P.cellsOf f.type)=ys.toList.drop (o+P.cellsOf f.type)):=by
    rw[hfo,I xs.toList (P.cellsOf f.type),I ys.toList (P.cellsOf f.type)];constructor
    ·intro e;have e2:=List.append_inj e (by simp only[List.length_take,List.length_drop,Array.length_toList];omega);rw[<-I,<-I];exact⟨e2.1,e2.2⟩
    ·rintro⟨e1,e2⟩;rw[<-I,<-I]at e1;rw[e1,e2]
   rw[U];cases r with
   |false=>exact⟨false,by simp,by simp;intro e;exact absurd (J.2 e) sj⟩
   |true=>exact⟨r',by simpa using A0,by rw[R];simp[J.1 rfl]⟩
  ·cases ht
theorem Ai {d x:Nat} {e:TypeId} (hc:mP P d e=true) (he:Kz P d x e) (xs ys:Array Value) (hk:kH xs.toList ys.toList) (hs:xs.size=ys.size) (n:Nat) (hn:n*P.cellsOf e=xs.size):∀(m i:Nat),i+m=n->∀w:World,
 ∃r:Bool,(Op.eqItems (d+x) e (P.cellsOf e) xs ys (List.range' i m)).run P w=.ok r w/\(r=true↔xs.toList.drop (i*P.cellsOf e)=ys.toList.drop (i*P.cellsOf e))
 |0,i,hi,w=>by obtain rfl:i=n:=(by omega);refine⟨true,by simp[Op.eqItems],?_⟩;rw[List.drop_eq_nil_of_le (by simp;omega),List.drop_eq_nil_of_le (by simp;omega)];simp
 |m+1,i,hi,w=>by
  have j:i*P.cellsOf e+P.cellsOf e<=xs.size:=(by rw[<-hn,<-Nat.succ_mul];exact Nat.mul_le_mul_right _ om);obtain⟨r',A',J⟩:=Ai hc he xs ys hk hs n hn m (i+1) om w;rw[Nat.succ_mul]at J;have p1:=lL hc xs (i*P.cellsOf e) om w;have p2:=lL hc ys (i*P.cellsOf e) om w;obtain⟨r,hr,R⟩:=he w _ _ (by rw[List.length_take,List.length_drop,Array.length_toList];omega) (by rw[List.length_take,List.length_drop,Array.length_toList];omega) (hk.Oo (i*P.cellsOf e) (P.cellsOf e));rw[List.range'_succ];simp only[Op.eqItems,Sem.run_bind,p1,p2,hr,Result.andThen_ok];clear p1 p2 hr;generalize i*P.cellsOf e=o at*;have I:∀(l:List Value) (n:Nat),l.drop o=(l.drop o).take n++l.drop (o+n):=λl n=>(by rw[<-List.drop_drop];exact(List.take_append_drop _ _).symm);have U: (xs.toList.drop o=ys.toList.drop o)↔((xs.toList.drop o).take (P.cellsOf e)=(ys.toList.drop o).take (P.cellsOf e)/\xs.toList.drop (o+P.cellsOf e)=ys.toList.drop (o+P.cellsOf e)):=by
   constructor
   ·intro h;exact⟨by rw[h],by rw[<-List.drop_drop,h,List.drop_drop]⟩
   ·rintro⟨e1,e2⟩;rw[I xs.toList (P.cellsOf e),I ys.toList (P.cellsOf e),e1,e2]
  rw[U];cases r with
  |false=>exact⟨false,by simp,by simp;intro e;exact absurd (R.2 e) sj⟩
  |true=>exact⟨r',by simpa using A',by rw[J];simp[R.1 rfl]⟩
theorem Mr:∀(d x:Nat) (t:TypeId),mP P d t=true->Kz P d x t:=by
 intro d;induction d with
 |zero=>intro x t h;cases h
 |succ d ih=>
  intro x t h w cs j J U o;have h':=h;unfold mP at h;rw[show d+1+x=d+x+1 by omega];unfold Ef;split at h
  ·rename_i k hu;rw[hu];have h3:P.cellsOf t=1:=(by simpa using h);rw[h3]at J U
   match cs,j,J,U with
   |[a],[b],_,_=>obtain⟨k',m,n,rfl,rfl⟩:=o 0 a b rfl rfl;refine⟨m==n,run_equalIn_int w _ t k' k m n hu,?_⟩;simp
  ·rename_i fs hu;rw[hu];simp only[Bool.and_eq_true,Bool.not_eq_true',beq_iff_eq,List.all_eq_true,bne_iff_ne,ne_eq]at h;obtain⟨g1,_,g3,g4⟩:=h;have R:P.fieldsOf t=fs:=(by unfold Program.fieldsOf;rw[hu]);rw[run_equalIn_struct w (d+x) t _ _ (by rw[R];exact hu) g1,R];obtain⟨r,hr,I⟩:=zH (d:=d) (x:=x) cs.toArray j.toArray o (by simp[J,U]) fs.toList 0 (by rw[g3,List.size_toArray,J]) (λf R=>⟨(g4 f R).1,(g4 f R).2,ih x f.type (g4 f R).2⟩) w;exact⟨r,hr,by simpa using I⟩
  ·rename_i n e hu;rw[hu];simp only[Bool.and_eq_true,beq_iff_eq]at h;obtain⟨_,g2,g3,g4⟩:=h;obtain⟨i,hi⟩:=Option.isSome_iff_exists.1 g2;rw[run_equalIn_array w (d+x) _ _ hu hi,List.range_eq_range'];obtain⟨r,hr,I⟩:=Ai (d:=d) (x:=x) g4 (ih x e g4) cs.toArray j.toArray o (by simp[J,U]) n (by rw[g3,List.size_toArray,J]) n 0 om w;exact⟨r,hr,by simpa using I⟩
  ·cases h
theorem qp (d:Nat) {t:TypeId} (ht:mP P d t=true) (hd:d<=10000) (hu: (P.underlying t).all (λk=> !(k matches .int _))=true) (cs ds:List Value) (h1:cs.length=P.cellsOf t) (h2:ds.length=P.cellsOf t) (hk:kH cs ds) (w:World) (b:Bool) (hb:b=true↔cs=ds):
 (binOp .eql t (.agg cs.toArray) (.agg ds.toArray)).run P w=.ok (.bool b) w/\(binOp .neq t (.agg cs.toArray) (.agg ds.toArray)).run P w=.ok (.bool (!b)) w:=by
 obtain⟨r,I,J⟩:=Mr d (10000-d) t ht w cs ds h1 h2 hk;have hm:∀l:List Value,Ef P t l=.agg l.toArray:=by
  intro l;unfold Ef;split
  ·rename_i k hq;rw[hq]at hu;simp at hu
  ·rfl
 rw[hm,hm,show d+(10000-d)=10000 by omega]at I;obtain rfl:r=b:=by cases r<;>cases b<;>simp_all
 rw[run_eql_struct,run_neq_struct,I];exact⟨rfl,rfl⟩
variable {Q:Exit->Act->World->Prop}
theorem E0 {o:Oper} {a:Act} {w:World} {K:Act->World->Prop} {v:Value} {xs ys:Array Value} (op:BinOp) (t ty:TypeId) (x y:Operand) (ho:o.op=.binOp op t x y ty) (hx:a.eval x=.agg xs) (hy:a.eval y=.agg ys)
 (hg:P.eqGuardType P.depth t=false) (hrun: (binOp op t (.agg xs) (.agg ys)).run P w=.ok v w) (h:K (a.put o.dst v) w):o.wp P a w K Q:=by
 unfold Oper.wp execOp;simp only[ho,hx,hy,Sem.run_bind,run_eqGuard_agg w op t x y xs ys hg,Result.andThen_ok,hrun];exact h
theorem tl {ops:Array Oper} {rest:List Oper} {o:Oper} {a:Act} {w:World} {v:Value} {xs ys:Array Value} (op:BinOp) (t ty:TypeId) (x y:Operand) (ho:o.op=.binOp op t x y ty) (hw:Region.wanted o (yielded ops a.tmps)=true)
 (hx:a.eval x=.agg xs) (hy:a.eval y=.agg ys) (hg:P.eqGuardType P.depth t=false) (hrun: (binOp op t (.agg xs) (.agg ys)).run P w=.ok v w) (h:wpList P ops Q rest (a.put o.dst v) w):wpList P ops Q (o::rest) a w:=
 wpList_step λK hK=>by simp only[hw,if_true];exact E0 op t ty x y ho hx hy hg hrun (hK _ _ h)
end
end
section
theorem own:ownKnob prog.godebug=none:=by kernel_rfl
theorem laidOut:laidOutB prog=true:=by kernel_rfl
theorem Mj:prog.cellsOf 5=1:=by kernel_rfl
end
section
open Go.RowKit Go.ChangeShapes Go.WideShapes Go.ChangeAt
theorem pC {L:List (Int×Nat)} (h:∀x∈L,Pk.iQ x=0):∀x∈L,x.2<18446744073709551616:=by intro x hx;have I:=Pk.lR (h x hx);have J:256^x.1.toNat<=256^8:=Nat.pow_le_pow_right om om;omega
def bg (l:List (Int×Nat)):List Value:=l.flatMap λx=>[i6 x.1,.int .u64 (x.2:Int)]
theorem eZ (l m:List (Int×Nat)):bg (l++m)=bg l++bg m:=by unfold bg;rw[List.flatMap_append]
theorem iS: (prog.info? 200).map (λi=>(i.zero,i.size,i.bytes))=some (some (.agg #[i6 0,.int .u64 0]),2,16):=by kernel_rfl
theorem pO (l:List (Int×Nat)):∀u∈bg l,u.oneCell'=true:=by intro u hu;unfold bg at hu;obtain⟨p,_,hp⟩:=List.mem_flatMap.1 hu;simp only[List.mem_cons,List.not_mem_nil,or_false]at hp;rcases hp with rfl|rfl<;>rfl
theorem tp {P:Program} {t e:TypeId} {n:Nat} (d:Nat) (ht:P.underlying t=some (.array n e)) (he:mP P d e=true) {i:TypeInfo} (hi:P.info? e=some i) (cs:List Value) (k:Nat) (hk:k<n) (hl:k*P.cellsOf e+P.cellsOf e<=cs.length) (z:Int) (hz:z=k) (W:World):
 (Instr.index t (.agg cs.toArray) (i6 z)).run P W=.ok (Ef P e ((cs.drop (k*P.cellsOf e)).take (P.cellsOf e))) W:=by
 subst hz;have I: (0:Int)<=(k:Int)/\(k:Int)<(n:Int):=by omega
 simp only[Instr.index,asIntOf,Sem.run_bind,Sem.run_pure,Result.andThen_ok,run_underlying ht,I,and_self,if_true,run_sizeOf W hi,Int.toNat_natCast];rw[lL he cs.toArray _ (by simpa using hl) W]
theorem nP: (prog.info? 310).map (λi=>(i.zero,i.size,i.bytes))=some (some (.agg #[i6 0,i6 0,i6 0,.int .u32 0]),4,32):=by kernel_rfl
def Made (l:List UInt8) (w:World) (e:Ending) (w':World):Prop:=∃u,e=.returned (.tuple #[u,i6 0])/\ju w.heap.size w' u l/\Bw w w'
def pN (ps:List (Int×Nat)):List (Int×Nat):=(Nd.pW ps.length).zip (Nd.pV ps)
theorem Al (p:Int×Nat) (ps:List (Int×Nat)):pN (p::ps)=(4,p.1.toNat)::(4,p.2)::pN ps:=by unfold pN;rw[Nd.rY,List.length_cons,Nd.pW,List.zip_cons_cons,List.zip_cons_cons]
theorem y_:∀(ps qs:List (Int×Nat)),pN (ps++qs)=pN ps++pN qs
 |[],_=>rfl
 |p::ps,qs=>by rw[List.cons_append,Al,Al,y_ ps qs];rfl
theorem sQ (ps:List (Int×Nat)): (pN ps).length=2*ps.length:=by unfold pN;rw[List.length_zip,Nd.jK,Nd.jy,Nat.min_self]
end
namespace ImW
open Go.RowKit Go.ChangeShapes Go.WideShapes Go.ChangeAt
theorem ee.aG {w:World} {base:Nat} {e:TypeId} {v:Value} {l:List (Int×Nat)} (h:w.ownsRow base e 2 v l.length (bg l)):ee w w.heap.size v l:=bw.aG h
theorem kH.cons {k:IntKind} {m n:Int} {cs ds:List Value} (h:kH cs ds):kH (.int k m::cs) (.int k n::ds):=by
 intro j a b ha I;cases j with
 |zero=>injection ha with ha;injection I with I;exact⟨k,m,n,ha.symm,I.symm⟩
 |succ j=>exact h j a b ha I
end ImW
namespace ImW
open Go.RowKit Go.ChangeShapes Go.WideShapes Go.ChangeAt
open Im (Sl)
def cR (x:Sl):List Value:=[i6 x.a,.int .u32 (x.s:Int),i6 x.v]
def ag (m:List Sl):List Value:=m.flatMap cR
def FP (x:Sl):Value:=.agg #[i6 x.a,.int .u32 (x.s:Int),i6 x.v]
def eC (m:List Sl):Value:=.agg (ag m).toArray
theorem bB (x:Sl) (m:List Sl):ag (x::m)=i6 x.a:: .int .u32 (x.s:Int)::i6 x.v::ag m:=by unfold ag;rw[List.flatMap_cons];rfl
theorem au:∀m:List Sl,(ag m).length=3*m.length
 |[]=>rfl
 |x::m=>by rw[bB];simp only[List.length_cons,au m];omega
theorem oH (m n:List Sl):ag (m++n)=ag m++ag n:=by unfold ag;rw[List.flatMap_append]
theorem eE:∀(m:List Sl) (k:Nat),(ag m).drop (3*k)=ag (m.drop k)
 |m,0=>rfl
 |[],k+1=>by simp[ag]
 |x::m,k+1=>by rw[bB,List.drop_succ_cons,show 3*(k+1)=3*k+1+1+1 by omega,List.drop_succ_cons,List.drop_succ_cons,List.drop_succ_cons,eE m k]
theorem dE:∀(m:List Sl) (k:Nat),(ag m).take (3*k)=ag (m.take k)
 |m,0=>rfl
 |[],k+1=>by simp[ag]
 |x::m,k+1=>by rw[bB,List.take_succ_cons,show 3*(k+1)=3*k+1+1+1 by omega,List.take_succ_cons,List.take_succ_cons,List.take_succ_cons,dE m k,bB]
theorem cj:∀{m:List Sl},∀v∈ag m,v.oneCell'=true
 |[],v,h=>by cases h
 |x::m,v,h=>by
  rw[bB]at h;simp only[List.mem_cons]at h;rcases h with rfl|rfl|rfl|h
  ·rfl
  ·rfl
  ·rfl
  ·exact cj v h
theorem rh:∀(m:List Sl) (k:Nat) (h:k<m.length),(ag m)[3*k]? =some (i6 m[k].a)/\(ag m)[3*k+1]? =some (.int .u32 (m[k].s:Int))/\(ag m)[3*k+2]? =some (i6 m[k].v)
 |x::m,0,_=>⟨rfl,rfl,rfl⟩
 |x::m,k+1,h=>by have:=rh m k (by simpa using h);rw[bB,show 3*(k+1)=3*k+1+1+1 by omega];exact this
theorem oN (m:List Sl) (k:Nat) (h:k<m.length): (ag m)[3*k]? =some (i6 (m.getD k Sl.zero).a)/\(ag m)[3*k+1]? =some (.int .u32 ((m.getD k Sl.zero).s:Int))/\(ag m)[3*k+2]? =some (i6 (m.getD k Sl.zero).v):=by
 have e:m.getD k Sl.zero=m[k]:=by simp[List.getD,h]
 rw[e];exact rh m k h
theorem pJ:∀a b:List Sl,ag a=ag b->a=b
 |[],[],_=>rfl
 |[],y::b,h=>by rw[bB]at h;cases h
 |x::a,[],h=>by rw[bB]at h;cases h
 |x::a,y::b,h=>by rw[bB,bB]at h;simp only[List.cons.injEq,Value.int.injEq,true_and]at h;obtain⟨I,J,R,U⟩:=h;rw[pJ a b U];congr 1;obtain⟨p,q,r⟩:=x;obtain⟨j,o,r'⟩:=y;simp only at I J R;rw[Sl.mk.injEq];omega
theorem pR:∀a b:List Sl,kH (ag a) (ag b)
 |[],_=>λj a b ha _=>by simp[ag]at ha
 |_::_,[]=>λj a b _ I=>by simp[ag]at I
 |x::a,y::b=>by rw[bB,bB];exact kH.cons (kH.cons (kH.cons (pR a b)))
theorem iW (m:List Sl) (k:Nat):ag (Im.blk m k)=((ag m).drop (30*k)).take 30:=by unfold Im.blk;rw[show 30*k=3*(10*k) by omega,eE,show 30=3*10 from rfl,dE]
theorem AD:mP prog 4 97=true:=by kernel_rfl
theorem jU:prog.cellsOf 97=3:=by kernel_rfl
theorem ga (m:List Sl) (h:m.length=40): (prog.info? 99).map (·.size)=some (ag m).length:=by rw[au,h];kernel_rfl
theorem iq (m:List Sl) (h:m.length=10): (prog.info? 383).map (·.size)=some (ag m).length:=by rw[au,h];kernel_rfl
theorem pE (x:Sl): (prog.info? 97).map (·.size)=some (cR x).length:=by kernel_rfl
theorem DF {a:Int} {s:Nat} (h:¬0<=a):Nd.dj (a,s)=false:=by unfold Nd.dj;exact decide_eq_false (λq=>h q.1)
theorem ER {a:Int} {s:Nat} (h:¬a<=2147483647):Nd.dj (a,s)=false:=by unfold Nd.dj;exact decide_eq_false (λq=>h q.2.1)
theorem DW {a:Int} {s:Nat} (h:¬0<a) (h1:0<=a) (h0:s≠0):Nd.dj (a,s)=false:=by unfold Nd.dj;exact decide_eq_false (λq=>h0 (q.2.2 (by show a=0;omega)))
theorem mL {a:Int} {s:Nat} (h:0<a) (h2:a<=2147483647):Nd.dj (a,s)=true:=by unfold Nd.dj;exact decide_eq_true ⟨by show 0<=a;omega,h2,λq=>absurd q (by show¬a=0;omega)⟩
theorem Bq {a:Int} (h1:0<=a) (h2:a<=2147483647):Nd.dj (a,0)=true:=by unfold Nd.dj;exact decide_eq_true ⟨h1,h2,λ_=>rfl⟩
theorem Am (a:Int) (s:Nat) (w:World):
 Calls prog 289 #[.agg #[i6 a,.int .u32 (s:Int)]] w λe w'=>e=.returned (.bool (Nd.dj (a,s)))/\Bw w w':=by
 by_cases I:0<=a
 ·by_cases J:a<=2147483647
  ·by_cases R:0<a
   ·have H:=ja (mL (s:=s) R J);go_enter func289,ntmps289;go_wp2;go_ret;exact⟨by rw[H.a];rfl,bh.alloc lh _⟩
   ·by_cases U:s=0
    ·subst U;have H:=ja (Bq I J);go_enter func289,ntmps289;go_wp2;go_ret;exact⟨by rw[H.a];rfl,bh.alloc lh _⟩
    ·have H:=ja (DW (s:=s) R I U);have j: ((s:Int)==0)=false:=(by rw[beq_eq_false_iff_ne];omega);go_enter func289,ntmps289;go_wp2;go_ret;exact⟨by rw[H.a];rfl,bh.alloc lh _⟩
  ·have H:=ja (ER (s:=s) J);go_enter func289,ntmps289;go_wp2;go_ret;exact⟨by rw[H.a];rfl,bh.alloc lh _⟩
 ·have H:=ja (DF (s:=s) I);go_enter func289,ntmps289;go_wp2;go_ret;exact⟨by rw[H.a];rfl,bh.alloc lh _⟩
theorem xd (x:Sl) (w:World):
 Calls prog 178 #[FP x] w λe w'=>e=.returned (.bool (decide (0<x.a)))/\Bw w w':=by
 unfold FP;go_enter func178,ntmps178;go_wp2;go_ret;exact⟨rfl,bh.alloc lh _⟩
theorem g_ (m:List Sl) (k:Nat) (w:World) (hm:m.length=40) (hk:k<4):
 Calls prog 254 #[eC m,i6 (k:Int)] w λe w'=>e=.returned (eC (Im.blk m k))/\Bw w w':=by
 unfold eC;rcases(by omega:k=0\/k=1\/k=2\/k=3)with rfl|rfl|rfl|rfl
 ·rw[show(((0:Nat)):Int)=0 from rfl];go_enter func254,ntmps254;(go_upto_region 1 with(fail));have i0:=(ak.new w 99 (ag m).toArray);change ak _ _ _ (ag m)at i0;have U:=(Below.refl w.heap.size w).alloc lh (.cells (ag m).toArray 99);have I: (w.alloc (.cells (ag m).toArray 99)).heap.size=w.heap.size+1:=World.size_alloc _ _;generalize w.alloc (.cells (ag m).toArray 99)=w0 at*;obtain⟨g0,J⟩:∃g,g=w.heap.size:=⟨_,rfl⟩;rw[<-J]at i0 I|-;generalize R:w0.alloc (.cells _ 383)=w1;have j:ak w1 w0.heap.size 383 (ag (List.replicate 10 Sl.zero)):=(by rw[<-R];exact ak.new w0 _ _);have i1:ak w1 g0 99 (ag m):=(by rw[<-R];exact i0.alloc _);have c1:Bw w w1:=(by rw[<-R];exact U.alloc U.size _);clear R i0;rw[I]at j;have A':w.heap.size<=g0+1:=(by omega);clear J I U;have A0:∀W,(Instr.arrayAt 383 (.slice (some ⟨g0,0,none⟩) 40 40)).run prog W=.ok (pt g0 0) W:=λW=>run_arrayAt W 383 97 10 _ 40 40 underlying383 dc;have hr:=i1.bF 0 (ag (Im.blk m 0)) (by rw[au,Im.aM hm dc];exact iW m 0);(go_wp2_with(first|refine aw 383 (.tmp 8) rfl rfl g0 0 rfl (ag (Im.blk m 0)) _ hr underlying383 rfl (iq _ (Im.aM hm dc)) ?_|refine wpList_store_mid rfl 383 (.tmp 4) (.tmp 9) rfl (g0+1) 0 (ag (Im.blk m 0)).toArray rfl rfl (j.there 0 _ (by rw[List.size_toArray,au,au,Im.aM hm dc];decide)) (iq _ (Im.aM hm dc)) (all_oneCell_toArray cj) ?_));have hz:=j.setCells (ag (Im.blk m 0)) 0 (by rw[au,au,Im.aM hm dc];decide);rw[ck _ _ (by rw[au,au,Im.aM hm dc];decide)]at hz;have bz:=aS (o:=0) (vs:=ag (Im.blk m 0)) c1 A';refine bodyPost_ret (v:=eC (Im.blk m 0)) (cZ (ag (Im.blk m 0)) _ results254 rfl hz.range underlying383 rfl (iq _ (Im.aM hm dc))) rfl ?_;exact⟨rfl,bz⟩
 ·rw[show(((1:Nat)):Int)=1 from rfl];go_enter func254,ntmps254;(go_upto_region 1 with(fail));have i0:=(ak.new w 99 (ag m).toArray);change ak _ _ _ (ag m)at i0;have U:=(Below.refl w.heap.size w).alloc lh (.cells (ag m).toArray 99);have I: (w.alloc (.cells (ag m).toArray 99)).heap.size=w.heap.size+1:=World.size_alloc _ _;generalize w.alloc (.cells (ag m).toArray 99)=w0 at*;obtain⟨g0,J⟩:∃g,g=w.heap.size:=⟨_,rfl⟩;rw[<-J]at i0 I|-;generalize R:w0.alloc (.cells _ 383)=w1;have j:ak w1 w0.heap.size 383 (ag (List.replicate 10 Sl.zero)):=(by rw[<-R];exact ak.new w0 _ _);have i1:ak w1 g0 99 (ag m):=(by rw[<-R];exact i0.alloc _);have c1:Bw w w1:=(by rw[<-R];exact U.alloc U.size _);clear R i0;rw[I]at j;have A':w.heap.size<=g0+1:=(by omega);clear J I U;have A0:∀W,(Instr.arrayAt 383 (.slice (some ⟨g0,30,none⟩) 30 30)).run prog W=.ok (pt g0 30) W:=λW=>run_arrayAt W 383 97 10 _ 30 30 underlying383 dc;have hr:=i1.bF 30 (ag (Im.blk m 1)) (by rw[au,Im.aM hm dc];exact iW m 1);(go_wp2_with(first|refine aw 383 (.tmp 8) rfl rfl g0 30 rfl (ag (Im.blk m 1)) _ hr underlying383 rfl (iq _ (Im.aM hm dc)) ?_|refine wpList_store_mid rfl 383 (.tmp 4) (.tmp 9) rfl (g0+1) 0 (ag (Im.blk m 1)).toArray rfl rfl (j.there 0 _ (by rw[List.size_toArray,au,au,Im.aM hm dc];decide)) (iq _ (Im.aM hm dc)) (all_oneCell_toArray cj) ?_));have hz:=j.setCells (ag (Im.blk m 1)) 0 (by rw[au,au,Im.aM hm dc];decide);rw[ck _ _ (by rw[au,au,Im.aM hm dc];decide)]at hz;have bz:=aS (o:=0) (vs:=ag (Im.blk m 1)) c1 A';refine bodyPost_ret (v:=eC (Im.blk m 1)) (cZ (ag (Im.blk m 1)) _ results254 rfl hz.range underlying383 rfl (iq _ (Im.aM hm dc))) rfl ?_;exact⟨rfl,bz⟩
 ·rw[show(((2:Nat)):Int)=2 from rfl];go_enter func254,ntmps254;(go_upto_region 1 with(fail));have i0:=(ak.new w 99 (ag m).toArray);change ak _ _ _ (ag m)at i0;have U:=(Below.refl w.heap.size w).alloc lh (.cells (ag m).toArray 99);have I: (w.alloc (.cells (ag m).toArray 99)).heap.size=w.heap.size+1:=World.size_alloc _ _;generalize w.alloc (.cells (ag m).toArray 99)=w0 at*;obtain⟨g0,J⟩:∃g,g=w.heap.size:=⟨_,rfl⟩;rw[<-J]at i0 I|-;generalize R:w0.alloc (.cells _ 383)=w1;have j:ak w1 w0.heap.size 383 (ag (List.replicate 10 Sl.zero)):=(by rw[<-R];exact ak.new w0 _ _);have i1:ak w1 g0 99 (ag m):=(by rw[<-R];exact i0.alloc _);have c1:Bw w w1:=(by rw[<-R];exact U.alloc U.size _);clear R i0;rw[I]at j;have A':w.heap.size<=g0+1:=(by omega);clear J I U;have A0:∀W,(Instr.arrayAt 383 (.slice (some ⟨g0,60,none⟩) 20 20)).run prog W=.ok (pt g0 60) W:=λW=>run_arrayAt W 383 97 10 _ 20 20 underlying383 dc;have hr:=i1.bF 60 (ag (Im.blk m 2)) (by rw[au,Im.aM hm dc];exact iW m 2);(go_wp2_with(first|refine aw 383 (.tmp 8) rfl rfl g0 60 rfl (ag (Im.blk m 2)) _ hr underlying383 rfl (iq _ (Im.aM hm dc)) ?_|refine wpList_store_mid rfl 383 (.tmp 4) (.tmp 9) rfl (g0+1) 0 (ag (Im.blk m 2)).toArray rfl rfl (j.there 0 _ (by rw[List.size_toArray,au,au,Im.aM hm dc];decide)) (iq _ (Im.aM hm dc)) (all_oneCell_toArray cj) ?_));have hz:=j.setCells (ag (Im.blk m 2)) 0 (by rw[au,au,Im.aM hm dc];decide);rw[ck _ _ (by rw[au,au,Im.aM hm dc];decide)]at hz;have bz:=aS (o:=0) (vs:=ag (Im.blk m 2)) c1 A';refine bodyPost_ret (v:=eC (Im.blk m 2)) (cZ (ag (Im.blk m 2)) _ results254 rfl hz.range underlying383 rfl (iq _ (Im.aM hm dc))) rfl ?_;exact⟨rfl,bz⟩
 ·rw[show(((3:Nat)):Int)=3 from rfl];go_enter func254,ntmps254;(go_upto_region 1 with(fail));have i0:=(ak.new w 99 (ag m).toArray);change ak _ _ _ (ag m)at i0;have U:=(Below.refl w.heap.size w).alloc lh (.cells (ag m).toArray 99);have I: (w.alloc (.cells (ag m).toArray 99)).heap.size=w.heap.size+1:=World.size_alloc _ _;generalize w.alloc (.cells (ag m).toArray 99)=w0 at*;obtain⟨g0,J⟩:∃g,g=w.heap.size:=⟨_,rfl⟩;rw[<-J]at i0 I|-;generalize R:w0.alloc (.cells _ 383)=w1;have j:ak w1 w0.heap.size 383 (ag (List.replicate 10 Sl.zero)):=(by rw[<-R];exact ak.new w0 _ _);have i1:ak w1 g0 99 (ag m):=(by rw[<-R];exact i0.alloc _);have c1:Bw w w1:=(by rw[<-R];exact U.alloc U.size _);clear R i0;rw[I]at j;have A':w.heap.size<=g0+1:=(by omega);clear J I U;have A0:∀W,(Instr.arrayAt 383 (.slice (some ⟨g0,90,none⟩) 10 10)).run prog W=.ok (pt g0 90) W:=λW=>run_arrayAt W 383 97 10 _ 10 10 underlying383 dc;have hr:=i1.bF 90 (ag (Im.blk m 3)) (by rw[au,Im.aM hm dc];exact iW m 3);(go_wp2_with(first|refine aw 383 (.tmp 8) rfl rfl g0 90 rfl (ag (Im.blk m 3)) _ hr underlying383 rfl (iq _ (Im.aM hm dc)) ?_|refine wpList_store_mid rfl 383 (.tmp 4) (.tmp 9) rfl (g0+1) 0 (ag (Im.blk m 3)).toArray rfl rfl (j.there 0 _ (by rw[List.size_toArray,au,au,Im.aM hm dc];decide)) (iq _ (Im.aM hm dc)) (all_oneCell_toArray cj) ?_));have hz:=j.setCells (ag (Im.blk m 3)) 0 (by rw[au,au,Im.aM hm dc];decide);rw[ck _ _ (by rw[au,au,Im.aM hm dc];decide)]at hz;have bz:=aS (o:=0) (vs:=ag (Im.blk m 3)) c1 A';refine bodyPost_ret (v:=eC (Im.blk m 3)) (cZ (ag (Im.blk m 3)) _ results254 rfl hz.range underlying383 rfl (iq _ (Im.aM hm dc))) rfl ?_;exact⟨rfl,bz⟩
theorem ED (b:List Sl) (hb:b.length=10) (k:Nat) (hk:k<10) (W:World):
 (Instr.index 383 (.agg (ag b).toArray) (i6 (k:Int))).run prog W=.ok (FP (b.getD k Sl.zero)) W:=by
 obtain⟨i,hi⟩:∃i,prog.info? 97=some i:=Option.isSome_iff_exists.1 kj;have:=tp 4 underlying383 AD hi (ag b) k hk (by rw[jU,au];omega) _ rfl W;rw[this,jU];have e: ((ag b).drop (k*3)).take 3=cR (b.getD k Sl.zero):=by rw[Nat.mul_comm,eE,show 3=3*1 from rfl,dE];have hd:b.drop k=b.getD k Sl.zero::b.drop (k+1):=(by rw[List.drop_eq_getElem_cons om];congr 1;simp[List.getD,hb,hk]);rw[hd];rfl
 rw[e];unfold Ef;rw[underlying97];rfl
theorem xo (x y:Sl):cR x=cR y↔x=y:=by
 constructor
 ·intro h;have:=pJ [x] [y] (by rw[bB,bB];exact h);exact(List.cons.inj this).1
 ·rintro rfl;rfl
theorem xe (x y:Sl):kH (cR x) (cR y):=pR [x] [y]
theorem ym (x y:Sl) (b:Bool) (hb:b=decide (x=y)) (W:World):
 (binOp .eql 97 (.agg (cR x).toArray) (.agg (cR y).toArray)).run prog W=.ok (.bool b) W/\(binOp .neq 97 (.agg (cR x).toArray) (.agg (cR y).toArray)).run prog W=.ok (.bool (!b)) W:=by
 refine qp 4 AD dc kj (cR x) (cR y) (by rw[jU];rfl) (by rw[jU];rfl) (xe x y) W b ?_;rw[hb,decide_eq_true_iff,xo]
theorem Fu:prog.eqGuardType prog.depth 97=false:=by kernel_rfl
theorem Hc {b:List Sl} {j:Nat} (k:Int) (hj:j<b.length) (h:Im.mO (b.getD j Sl.zero)=false):Im.jQ b k=false:=by
 unfold Im.jQ;have:b.all Im.mO=false:=by
  cases hb:b.all Im.mO with
  |false=>rfl
  |true=>have:=List.all_eq_true.1 hb _ (Im.lW hj);rw[h]at this;cases this
 rw[this];rfl
theorem Ew {b:List Sl} {j:Nat} (hj:j<b.length) (h1: (b.take j).all Im.mO=true) (h2:Im.mO (b.getD j Sl.zero)=true): (b.take (j+1)).all Im.mO=true:=by
 have e:b.getD j Sl.zero=b[j]:=by simp[List.getD,hj]
 rw[e]at h2;rw[List.take_succ_eq_append_getElem hj,List.all_append,h1];simp[h2]
theorem LJ (y:Sl):Im.mO y=(Nd.dj (y.a,y.s)&&decide (0<=y.v/\y.v<=2147483647)):=rfl
theorem xr (b:List Sl) (k:Int) (w:World) (hb:b.length=10):
 Calls prog 253 #[eC b,i6 k] w λe w'=>e=.returned (.bool (Im.jQ b k))/\Bw w w':=by
 unfold eC;go_enter func253,ntmps253;go_upto_region 1 with(fail)
 have i0:=ak.new w 383 (ag b).toArray;have c0:=(Below.refl w.heap.size w).alloc lh (.cells (ag b).toArray 383);change ak _ _ _ (ag b)at i0;generalize w.alloc (.cells (ag b).toArray 383)=w0 at*;generalize w.heap.size=g2 at i0|-;have hr:=i0.range;go_wp2_with(refine aw 383 (.tmp 2) rfl rfl g2 0 rfl (ag b) _ hr underlying383 rfl (iq _ hb) ?_)
 clear hr;go_loopw [8] (λi wr=>∃j:Nat,j<=10/\i=i6 j/\Hid ((b.take j).all Im.mO=true)/\ak wr g2 383 (ag b)/\Bw w wr) (λi _=>10-(intOf i).toNat)
 case atStart=>exact⟨0,by omega,rfl,Lib.hid rfl,i0,c0⟩
 case round=>
  obtain⟨j,hj,rfl,HA,i1,c1⟩:=hrel;clear i0 c0;by_cases A2:j<10
  ·have A':=ED b hb j A2;have U:=Lib.hid (λh=>Hc (b:=b) (j:=j) k om h);have A3:=Lib.hid (λh=>Ew (b:=b) (j:=j) om HA.out h);have J:=Lib.hid (LJ (b.getD j Sl.zero));generalize b.getD j Sl.zero=y at*;unfold FP at A';(go_upto_region 4 with(fail));clear A';have kx:=ak.new wr 97 #[i6 y.a,.int .u32 (y.s:Int),i6 y.v];have c2:=c1.alloc c1.size (.cells #[i6 y.a,.int .u32 (y.s:Int),i6 y.v] 97);have i2:=i1.alloc (.cells #[i6 y.a,.int .u32 (y.s:Int),i6 y.v] 97);generalize wr.alloc (.cells #[i6 y.a,.int .u32 (y.s:Int),i6 y.v] 97)=w3 at*;generalize wr.heap.size=gx at kx|-;have x0:=kx.cell 0;have x1:=kx.cell 1;have x2:=kx.cell 2;simp only[List.getElem?_cons_zero,List.getElem?_cons_succ]at x0 x1 x2;clear i1 c1;(go_wp2_with fail);refine(Am y.a y.s _).mono ?_;rintro e w4 ⟨rfl,b4⟩;have i4:=i2.ext b4;have c4:=c2.trans (b4.mono c2.size);have x2:=(kx.ext b4).cell 2;simp only[List.getElem?_cons_zero,List.getElem?_cons_succ]at x2;clear x0 x1 kx i2 c2 b4;cases hp:Nd.dj (y.a,y.s)with
   |false=>have HN:=Lib.hid (U.out (by rw[J.out,hp];rfl));clear hp;go_wp2;go_ret;exact⟨by rw[HN.out];rfl,c4⟩
   |true=>
    by_cases A0:0<=y.v
    ·by_cases A1:y.v<=2147483647
     ·have HY:=Lib.hid (A3.out (by rw[J.out,hp,decide_eq_true ⟨A0,A1⟩];rfl));clear hp;go_wp2;go_roundw;case rel=>exact⟨j+1,by omega,by go_num,HY,i4,c4⟩
      case measure=>exact ms
     ·have HN:=Lib.hid (U.out (by rw[J.out,hp,decide_eq_false (λq=>A1 q.2)];rfl));clear hp;go_wp2;go_ret;exact⟨by rw[HN.out];rfl,c4⟩
    ·have HN:=Lib.hid (U.out (by rw[J.out,hp,decide_eq_false (λq=>A0 q.1)];rfl));clear hp;go_wp2;go_ret;exact⟨by rw[HN.out];rfl,c4⟩
  ·obtain rfl:j=10:=(by omega);have I:=HA.out;rw[List.take_of_length_le om]at I;have HE:=Lib.hid (show Im.jQ b k=(decide (0<k)||decide (b.getD 0 Sl.zero=Sl.zero)) by unfold Im.jQ;rw[I];rfl);clear I HA;rw[show(((10:Nat)):Int)=10 from rfl];by_cases hk:0<k
   ·have A4:=Lib.hid (show Im.jQ b k=true by rw[HE.out,decide_eq_true hk];rfl);go_wp2;go_ret;exact⟨by rw[A4.out];rfl,c1⟩
   ·have hr:=i1.bF 0 (cR (b.getD 0 Sl.zero)) (by
     have:=dE b 1;rw[List.drop_zero];show _=(ag b).take (3*1);rw[this]
     match b,hb with
     |x::b,_=>rfl)
    have HD:=Lib.hid (show Im.jQ b k=decide (b.getD 0 Sl.zero=Sl.zero) by rw[HE.out,decide_eq_false hk];rfl);generalize b.getD 0 Sl.zero=y at*;have R:=λW=>(ym y Sl.zero _ rfl W).1;obtain⟨r,o⟩:=ex (decide (y=Sl.zero));rw[o]at R;have A5:=Lib.hid o;clear o;(go_wp2_with(first|refine aw 97 (.tmp 29) rfl rfl g2 0 rfl (cR y) _ hr underlying97 rfl (pE y) ?_|refine tl .eql 97 97 (.tmp 30) (.tmp 31) rfl rfl rfl rfl Fu (R _) ?_));go_ret;exact⟨by rw[HD.out,A5.out];rfl,c1⟩
theorem uP (m:List Sl) (w:World) (hm:m.length=40):
 Calls prog 214 #[eC m] w λe w'=>e=.returned (.bool (Im.aV m))/\Bw w w':=by
 unfold eC;go_enter func214,ntmps214;go_upto_region 1 with(fail)
 have i0:=ak.new w 99 (ag m).toArray;have U:=(Below.refl w.heap.size w).alloc lh (.cells (ag m).toArray 99);change ak _ _ _ (ag m)at i0;generalize w.alloc (.cells (ag m).toArray 99)=w0 at*;generalize w.heap.size=g1 at i0|-;go_wp2;go_loopw [4] (λi wr=>∃j:Nat,j<=4/\i=i6 j/\Hid (∀q,q<j->Im.jQ (Im.blk m q) q=true)/\ak wr g1 99 (ag m)/\Bw w wr) (λi _=>4-(intOf i).toNat)
 case atStart=>exact⟨0,by omega,rfl,Lib.hid (λq o=>absurd o om),i0,U⟩
 case round=>
  obtain⟨j,hj,rfl,HA,i1,c1⟩:=hrel;clear i0 U;have HM:=Lib.hid (Im.Ed hm);by_cases I:j<4
  ·have hr:=i1.range;(go_wp2_with(refine aw 99 (.tmp 1) rfl rfl g1 0 rfl (ag m) _ hr underlying99 rfl (ga _ hm) ?_));refine(g_ m j _ hm I).mono ?_;rintro e w2 ⟨rfl,J⟩;have i2:=i1.ext J;have c2:=c1.trans (J.mono c1.size);clear hr i1 c1 J;(go_wp2_with fail);refine(xr (Im.blk m j) j _ (Im.aM hm I)).mono ?_;rintro e w3 ⟨rfl,R⟩;have i3:=i2.ext R;have c3:=c2.trans (R.mono c2.size);clear i2 c2 R;cases hb:Im.jQ (Im.blk m j) j with
   |false=>
    have HN:=Lib.hid (show Im.aV m=false by
     rw[HM.out];cases h: (List.range 4).all λk=>Im.jQ (Im.blk m k) k with
     |false=>rfl
     |true=>have:=List.all_eq_true.1 h j (List.mem_range.2 I);rw[hb]at this;cases this)
    clear hb;go_wp2;go_ret;exact⟨by rw[HN.out];rfl,c3⟩
   |true=>
    have HB:=Lib.hid (show∀q,q<j+1->Im.jQ (Im.blk m q) q=true fromλq o=>by
     by_cases e:q=j
     ·rw[e];exact hb
     ·exact HA.out q om)
    clear hb;go_wp2;go_roundw;case rel=>exact⟨j+1,by omega,by go_num,HB,i3,c3⟩
    case measure=>exact ms
  ·obtain rfl:j=4:=(by omega);have HY:=Lib.hid (show Im.aV m=true by rw[HM.out];exact List.all_eq_true.2 λk hk=>HA.out k (List.mem_range.1 hk));rw[show(((4:Nat)):Int)=4 from rfl];go_wp2;go_ret;exact⟨by rw[HY.out];rfl,c1⟩
end ImW
end Go.Proofs.YtdhgejiacehpbaaGreatDoor
