import Derived.Test.YtdhgejiacehpbaaGreatDoorA13
set_option maxRecDepth 100000
set_option maxHeartbeats 16000000
set_option linter.all false
namespace Go.Proofs.YtdhgejiacehpbaaGreatDoor
open Go.Proofs.Tryz
namespace Sm
open Pk (iQ bO db)
open Crc (bR)
structure En where
 k:Int
 i:Int
 x:Int
 s:Nat
deriving DecidableEq
structure Pt where
 s:Int
 n:Int
 e:Bool
 l:List En
deriving DecidableEq
def rO (y:En):Bool:=decide (1<=y.k/\y.k<=4/\0<=y.i/\y.i<=255/\0<=y.x/\y.x<=65535)
def De (s n:Int) (c:Nat):Bool:=decide (1<=s/\s<=281474976710655/\0<=n/\n<=2147483647/\1<=c/\c<=13)
def aV (p:Pt):Bool:=De p.s p.n p.l.length&&p.l.all rO
def eW:Nat->List Int
 |0=>[]
 |n+1=>1::1::2::4::eW n
def eV (l:List En):List Nat:=l.flatMap λy=>[y.k.toNat,y.i.toNat,y.x.toNat,y.s]
def Gu (n:Nat):List Int:=[4,6,4,1,1]++eW n
def JG (p:Pt):List Nat:=[1752397165,p.s.toNat,p.n.toNat,p.l.length,p.e.toNat]++eV p.l
def MV (p:Pt):List UInt8:=bR (bO ((Gu p.l.length).zip (JG p)))
def Good (p:Pt):Prop:=∀y∈p.l,y.s<4294967296
theorem DM:∀n,(eW n).length=4*n
 |0=>rfl
 |n+1=>by simp only[eW,List.length_cons,DM n];omega
theorem sx (y:En) (l:List En):eV (y::l)=y.k.toNat::y.i.toNat::y.x.toNat::y.s::eV l:=by unfold eV;rw[List.flatMap_cons];rfl
theorem Du:∀l,(eV l).length=4*l.length
 |[]=>rfl
 |p::l=>by rw[sx];simp only[List.length_cons,Du l];omega
theorem zP:∀n,db (eW n)=8*n
 |0=>rfl
 |n+1=>by rw[eW,Cd.js,Cd.js,Cd.js,Cd.js,zP n];show 1+(1+(2+(4+_)))=_;omega
theorem Dk (n:Nat):db (Gu n)=16+8*n:=by unfold Gu;simp only[List.cons_append,List.nil_append,Cd.js,zP];show 4+(6+(4+(1+(1+_))))=_;omega
theorem D7:∀(l:List En),l.all rO=true->(∀y∈l,y.s<4294967296)->∀x∈(eW l.length).zip (eV l),iQ x=0
 |[],_,_,x,hx=>by simp[eW,eV]at hx
 |p::ps,hp,hs,x,hx=>by
  rw[sx,List.length_cons,eW,List.zip_cons_cons,List.zip_cons_cons,List.zip_cons_cons,List.zip_cons_cons]at hx;simp only[List.all_cons,Bool.and_eq_true]at hp;have I:=hp.1;unfold rO at I;rw[decide_eq_true_iff]at I;have R:=hs p List.mem_cons_self;rcases List.mem_cons.1 hx with rfl|hx
  ·refine Pk.dy rfl ?_;simp;omega
  rcases List.mem_cons.1 hx with rfl|hx
  ·refine Pk.dy rfl ?_;simp;omega
  rcases List.mem_cons.1 hx with rfl|hx
  ·refine Pk.dy rfl ?_;simp;omega
  rcases List.mem_cons.1 hx with rfl|hx
  ·refine Pk.dy rfl ?_;simp;omega
  exact D7 ps hp.2 (λq J=>hs q (List.mem_cons_of_mem _ J)) x hx
theorem eR {p:Pt} (h:aV p=true): (1<=p.s/\p.s<=281474976710655/\0<=p.n/\p.n<=2147483647/\1<=p.l.length/\p.l.length<=13)/\p.l.all rO=true:=by unfold aV De at h;rw[Bool.and_eq_true,decide_eq_true_iff]at h;exact h
theorem IT (p:Pt): (JG p).length=(Gu p.l.length).length:=by unfold JG Gu;simp only[List.length_append,Du,DM];rfl
theorem eK (a:List Int) (b:List Nat) (c:List Int) (d:List Nat) (h:a.length=b.length): (a++c).zip (b++d)=a.zip b++c.zip d:=List.zip_append h
theorem LW (p:Pt) (hm:aV p=true) (hg:Good p):∀y∈(Gu p.l.length).zip (JG p),iQ y=0:=by
 obtain⟨h1,h2⟩:=eR hm;intro y hy;unfold Gu JG at hy;rw[eK _ _ _ _ rfl]at hy;rcases List.mem_append.1 hy with hy|hy
 ·simp only[List.zip_cons_cons,List.zip_nil_right,List.mem_cons,List.not_mem_nil,or_false]at hy;have he:p.e.toNat<=1:=(by cases p.e<;>decide);rcases hy with rfl|rfl|rfl|rfl|rfl<;>refine Pk.dy rfl ?_<;>simp<;>omega
 ·exact D7 p.l h2 hg y hy
theorem zE (p:Pt): (bO ((Gu p.l.length).zip (JG p))).length=16+8*p.l.length:=by rw[Cd.fh _ _ (IT p),Dk]
end Sm
namespace SmW
open Go.RowKit
attribute [local go_sem] Oper.semAt_some
def qJ (y:Sm.En):List Value:=[i6 y.k,i6 y.i,i6 y.x,.int .u32 (y.s:Int)]
def aK (l:List Sm.En):List Value:=l.flatMap qJ
def bP (w:World) (B:Nat) (v:Value) (l:List Sm.En):Prop:=bw w B 4 v l.length (aK l)
theorem ft (p:Sm.En) (l:List Sm.En):aK (p::l)=i6 p.k::i6 p.i::i6 p.x:: .int .u32 (p.s:Int)::aK l:=by unfold aK;rw[List.flatMap_cons];rfl
theorem da (l m:List Sm.En):aK (l++m)=aK l++aK m:=by unfold aK;rw[List.flatMap_append]
theorem gZ:∀(l:List Sm.En) (k:Nat) (h:k<l.length),(aK l)[k*4]? =some (i6 l[k].k)/\(aK l)[k*4+1]? =some (i6 l[k].i)/\(aK l)[k*4+2]? =some (i6 l[k].x)/\(aK l)[k*4+3]? =some (.int .u32 (l[k].s:Int))
 |x::l,0,_=>⟨rfl,rfl,rfl,rfl⟩
 |x::l,k+1,h=>by have:=gZ l k (by simpa using h);rw[ft,show(k+1)*4=k*4+1+1+1+1 by omega];exact this
def fF (w:World) (B:Nat) (A:Option Addr) (l:List Sm.En):Prop:=∀(j:Nat) (hj:j<l.length),∃b off,A=some ⟨b,off,none⟩/\b<B/\
 w.cell? (ae b (off+j*4))=some (i6 l[j].k)/\w.cell? (ae b (off+j*4+1))=some (i6 l[j].i)/\w.cell? (ae b (off+j*4+2))=some (i6 l[j].x)/\w.cell? (ae b (off+j*4+3))=some (.int .u32 (l[j].s:Int))
theorem bP.open_ {w:World} {B:Nat} {v:Value} {l:List Sm.En} (h:bP w B v l):∃(A:Option Addr) (c:Nat),v=.slice A l.length c/\l.length<=c/\c<=9223372036854775807/\fF w B A l:=by obtain⟨A,c,J,R,U,h4,o⟩:=h;refine⟨A,c,J,R,U,λj hj=>?_⟩;obtain⟨b,off,e,hb,I⟩:=o om;have:=gZ l j hj;exact⟨b,off,e,hb,I _ _ this.1,by have:=I _ _ this.2.1;rw[Nat.add_assoc];exact this,by have:=I _ _ this.2.2.1;rw[Nat.add_assoc];exact this,by have:=I _ _ this.2.2.2;rw[Nat.add_assoc];exact this⟩
theorem fF.below {w w':World} {B:Nat} {A:Option Addr} {l:List Sm.En} (h:fF w B A l) (hb:Below B w w'):fF w' B A l:=λj J=>by obtain⟨b,off,e,I,R,U,o,h3⟩:=h j J;exact⟨b,off,e,I,(cl hb I R),(cl hb I U),(cl hb I o),(cl hb I h3)⟩
def idx (es:List Sm.En) (k:Nat):List (Nat×Sm.En):=(List.range k).map λj=>(j,es.getD j ⟨0,0,0,0⟩)
theorem iG (es:List Sm.En) (k:Nat): (idx es k).length=k:=by simp[idx]
theorem Ey (es:List Sm.En) (k:Nat):idx es (k+1)=idx es k++[(k,es.getD k ⟨0,0,0,0⟩)]:=by simp[idx,List.range_succ]
theorem tw (es:List Sm.En) (k:Nat) (hk:k<=es.length): (idx es k).map (·.2)=es.take k:=by
 apply List.ext_getElem
 ·simp[idx,hk]
 ·intro i I J;have:i<es.length:=(by simp[idx]at I;omega);simp[idx,this]
abbrev fk (es:List Sm.En):={x:Nat×Sm.En//es[x.1]? =some x.2}
def jt (x:Nat×Sm.En):Array Value:=#[i6 (x.1:Int),.agg #[i6 x.2.k,i6 x.2.i,i6 x.2.x,.int .u32 (x.2.s:Int)]]
theorem vP (n:Nat) (hn:1<=n) (l Bs n₀ c:Nat) (A:Option Addr) (es:List Sm.En) (hlc:es.length<=9223372036854775807) (J Jx:List (fk es)->World->Prop)
 (hY:∀pre (x:fk es) W,J pre W->pre.length<es.length->YieldAt Fence.wide (n-1) prog l (jt x.1) W λe W'=>(e=.returned (.bool true)/\J (pre++[x]) W'/\Below n₀ W W')\/(e=.returned (.bool false)/\Jx (pre++[x]) W'))
 (W:World) (hn₀:n₀<=W.heap.size) (hJ:AbidesFrom W.heap.size J) (hBs:W.cell? (ae Bs 0)=some (.slice A es.length c)) (hE:fF W n₀ A es) (h0:J [] W):
 CallsIn Fence.wide n prog 327 #[.func (.yield l) #[] #[],pt Bs 0] W λe W'=>(∃v,e=.returned v)/\
  ((∃ys:List (fk es),ys.map (·.1)=idx es es.length/\J ys W')\/(∃pre:List (fk es),(∃k,k<=es.length/\pre.map (·.1)=idx es k)/\Jx pre W')):=by
 refine callsIn_of_wp func327 rfl trivial ?_ rfl;simp only[ntmps327,List.size_toArray,List.length_cons,List.length_nil,Nat.reduceAdd,Nat.reduceSub,Array.replicate_succ,Array.replicate_zero,List.push_toArray,List.append_toArray,List.nil_append,List.cons_append];gi_wp2;gi_loopw [7] (λi wr=>∃(k:Nat) (ys:List (fk es)),k<=es.length/\i=i6 k/\ys.map (·.1)=idx es k/\J ys wr/\Below n₀ W wr)
  (λi _=>es.length-(intOf i).toNat)
 case atStart=>exact⟨0,[],Nat.zero_le _,rfl,rfl,h0,Below.refl _ _⟩
 case round=>
  obtain⟨k,ys,hk,rfl,U,A',j⟩:=hrel;by_cases R:k<es.length
  ·obtain⟨b,off,rfl,hb,h0,h1,h2,h3⟩:=(hE.below j) k R;gi_upto_region 3 with fail;have o:Bw wr (wr.alloc (.cells #[i6 es[k].k,i6 es[k].i,i6 es[k].x,.int .u32 (es[k].s:Int)] 310)):=(Below.refl _ wr).alloc lh _;have I:=ak.new wr 310 #[i6 es[k].k,i6 es[k].i,i6 es[k].x,.int .u32 (es[k].s:Int)];obtain⟨W1,A0⟩:=ex (wr.alloc (.cells #[i6 es[k].k,i6 es[k].i,i6 es[k].x,.int .u32 (es[k].s:Int)] 310));rw[A0]at o I|-;clear A0;have A3:J ys W1:=hJ _ _ _ none A' (aI o none) (λr e=>by cases e);obtain⟨fn,tmps,assign,body,hy,hR⟩:=hY _ ⟨(k,es[k]),List.getElem?_eq_getElem R⟩ W1 A3 (by have:=congrArg List.length U;rw[List.length_map,iG]at this;omega);unfold jt at hy;dsimp only at hy;have A4:n₀<=wr.heap.size:=Nat.le_trans hn₀ j.size;have e0:W1.cell? (ae wr.heap.size 0)=some (i6 es[k].k):=I.cell 0;have e1:W1.cell? (ae wr.heap.size 1)=some (i6 es[k].i):=I.cell 1;have e2:W1.cell? (ae wr.heap.size 2)=some (i6 es[k].x):=I.cell 2;have e3:W1.cell? (ae wr.heap.size 3)=some (.int .u32 (es[k].s:Int)):=I.cell 3;have A1: (ys++[(⟨(k,es[k]),List.getElem?_eq_getElem R⟩:fk es)]).map (λy:fk es=>y.1)=idx es (k+1):=(by rw[List.map_append,U,Ey,List.getD_eq_getElem?_getD,List.getElem?_eq_getElem R];rfl);gi_wp2;refine hR.mono ?_;rintro e W3 (⟨rfl,A5,A6⟩|⟨rfl,A2⟩)
   ·gi_wp2;go_roundw;case rel=>exact⟨k+1,_,by omega,by go_num,A1,A5,(j.trans (o.mono A4)).trans A6⟩
    case measure=>exact ms
   ·gi_wp2;refine bodyPost_ret (results_none rfl _ _ _) rfl ?_;exact⟨⟨_,rfl⟩,.inr ⟨_,⟨k+1,by omega,A1⟩,A2⟩⟩
  ·obtain rfl:k=es.length:=(by omega);gi_wp2;go_end0;exact⟨⟨_,rfl⟩,.inl ⟨_,U,A'⟩⟩
theorem jT (A:Option Addr) (m c:Nat) (w:World):
 Calls prog 314 #[.slice A m c] w λe w'=>e=.returned (.func (.func 327) #[] #[pt w.heap.size 0])/\w'=w.alloc (.cells #[.slice A m c] 264):=by
 go_enter func314,ntmps314;go_wp2;go_ret;exact⟨rfl,rfl⟩
theorem gS (n:Nat) (hn:1<=n) (Bs n₀:Nat) (v:Value) (es:List Sm.En) (w:World) (hBs:Bs<w.heap.size) (hn₀:n₀<=w.heap.size) (hc:w.cell? (ae Bs 0)=some v) (hI:bP w n₀ v es):
 SeqStopsK Fence.wide n prog 327 #[pt Bs 0] (λx:fk es=>jt x.1) (Below n₀) (λys=>ys.map (·.1)=idx es es.length) (λpre=>∃k,k<=es.length/\pre.map (·.1)=idx es k) es.length w:=λl J U W I j _ o h0=>by
 have R:=cl I hBs hc;obtain⟨A,c,rfl,h1,h2,hE⟩:=hI.open_;exact vP n hn l Bs n₀ c A es om J U o W (Nat.le_trans hn₀ I.size) j R (hE.below (I.mono hn₀)) h0
def xw (pre:List (Nat×Sm.En)):Bool:=pre.all λx=>Sm.rO x.2
theorem mr (pre:List (Nat×Sm.En)) (x:Nat×Sm.En):xw (pre++[x])=(xw pre&&Sm.rO x.2):=by unfold xw;rw[List.all_append,List.all_cons,List.all_nil,Bool.and_true]
theorem ui (l:List Sm.En) (k:Nat) (hk:k<=l.length):xw (idx l k)=(l.take k).all Sm.rO:=by unfold xw;rw[<-tw l k hk,List.all_map];rfl
theorem GD (s n:Int) (e:Bool) (vl:Value) (l:List Sm.En) (w:World) (hl:bP w w.heap.size vl l):
 CallsIn Fence.wide 9 prog 313 #[.agg #[i6 s,i6 n,.bool e,vl]] w λr w'=>r=.returned (.bool (Sm.aV ⟨s,n,e,l⟩))/\Bw w w':=by
 obtain⟨A,c,rfl,Ah,Ao,hE⟩:=hl.open_;refine callsIn_of_wp_marks func313 rfl trivial ?_ rfl;simp only[ntmps313,List.size_toArray,List.length_cons,List.length_nil,Nat.reduceAdd,Nat.reduceSub,Array.replicate_succ,Array.replicate_zero,List.push_toArray,List.append_toArray,List.nil_append,List.cons_append];have U:Bw w ((w.alloc (.cells #[i6 s,i6 n,.bool e,.slice A l.length c] 369)).alloc (.cells #[.bool false] 4)):=((Below.refl _ w).alloc lh _).alloc sj _;have k2:=ak.new (w.alloc (.cells #[i6 s,i6 n,.bool e,.slice A l.length c] 369)) 4 #[.bool false];rw[World.size_alloc]at k2;have o:=k2.cell 0;by_cases h1:1<=s/\s<=281474976710655/\0<=n/\n<=2147483647
 ·obtain⟨h1,h2,h3,h4⟩:=h1;by_cases h5:1<=l.length/\l.length<=13
  ·obtain⟨h5,h6⟩:=h5;have hM:Sm.aV ⟨s,n,e,l⟩=l.all Sm.rO:=(by unfold Sm.aV Sm.De;simp[h1,h2,h3,h4,h5,h6]);clear o;gi_wp2_with (refine⟨trivial,?_⟩;gi_at_call 314;refine(callsIn_wide.2 (jT _ _ _ _)).mono ?_;rintro e w' ⟨rfl,rfl⟩);have k3:=ak.new ((w.alloc (.cells #[i6 s,i6 n,.bool e,.slice A l.length c] 369)).alloc (.cells #[.bool false] 4)) 264 #[.slice A l.length c];replace k2:=k2.alloc (.cells #[.slice A l.length c] 264);replace U:=U.alloc (by simp;omega) (.cells #[.slice A l.length c] 264);rw[World.size_alloc,World.size_alloc]at k3;have A8: (((w.alloc (.cells #[i6 s,i6 n,.bool e,.slice A l.length c] 369)).alloc (.cells #[.bool false] 4)).alloc (.cells #[.slice A l.length c] 264)).heap.size=w.heap.size+3:=(by simp);obtain⟨W0,A4⟩:=ex (((w.alloc (.cells #[i6 s,i6 n,.bool e,.slice A l.length c] 369)).alloc (.cells #[.bool false] 4)).alloc (.cells #[.slice A l.length c] 264));rw[A4]at k2 k3 U A8|-;clear A4;generalize hT:Act.mk _ _=a0;refine wpIn_rangeFunc_ownH rfl dc (gf:=327) (lb:=#[pt (w.heap.size+1+1) 0]) (by subst hT;rfl) trivial (enters_of func327 kj rfl)
    (gS 8 dc (w.heap.size+1+1) w.heap.size _ l W0 om om (k3.cell 0) (hl.below U)) belowK_t (belowK_b om) bh (λ_=>rfl)
    (λpre W=>(ak W (w.heap.size+1) 4 [.bool false]/\xw (pre.map (·.1))=true)/\Bw w W)
    (λc pre W=>((c=.ret/\xw (pre.map (·.1))=false)/\ak W (w.heap.size+1) 4 [.bool false])/\Bw w W)
    (OwnFrom.and (OwnFrom.and (bC _ _ _ _) (ownFrom_pure _ _)) (ownFrom_below lh om))
    (λc=>OwnFrom.and (OwnFrom.and (ownFrom_pure _ _) (bC _ _ _ _)) (ownFrom_below lh om))
    ⟨⟨k2,rfl⟩,U⟩
    (λx a' W=>∃B,w.heap.size+1<B/\ak W B 310 [i6 x.1.2.k,i6 x.1.2.i,i6 x.1.2.x,.int .u32 (x.1.2.s:Int)]/\
     a'={tmps:=((a0.tmps.setIfInBounds 36 (i6 (x.1.1:Int))).setIfInBounds 37 (.agg #[i6 x.1.2.k,i6 x.1.2.i,i6 x.1.2.x,.int .u32 (x.1.2.s:Int)])).setIfInBounds 4 (pt B 0),defers:=[]})
    (λx a'=>by intro _ A1 A2 row hs hg hr;obtain⟨B,hB,hk,ha⟩:=hs;exact⟨B,hB,bC W0.heap.size B _ (λ(_:Unit)=>_) () A1 A2 row hk hg hr,ha⟩)
    ?assign ?body ?done ?stop
   case assign=>rintro l9 pre ⟨x,A9⟩ W K ⟨⟨J,I⟩,R⟩ hK;subst hT;unfold jt at*;dsimp only at*;gi_wp2;exact hK _ _ ((KeepsOthers.alloc _ _).from _) ((Below.refl _ W).alloc R.size _) ⟨⟨J.alloc _,I⟩,R.alloc R.size _⟩ ⟨W.heap.size,J.lt,ak.new W _ _,rfl⟩
   case body=>
    rintro l9 pre ⟨x,A9⟩ a' W Aq ⟨r9,Ar⟩ ⟨⟨J,I⟩,R⟩ ⟨Bx,As,bX,rfl⟩ Au;subst hT;dsimp only at bX;simp only[List.setIfInBounds_toArray,List.set_cons_succ,List.set_cons_zero];have cS:=J.cell 0;have fS:=J.frozen 0;have c0:W.cell? (ae Bx 0)=some (i6 x.2.k):=bX.cell 0;have c1:W.cell? (ae Bx 1)=some (i6 x.2.i):=bX.cell 1;have c2:W.cell? (ae Bx 2)=some (i6 x.2.x):=bX.cell 2;have A5:=R.setCell (p:=ae (w.heap.size+1) 0) sj (.bool false);by_cases hx:1<=x.2.k/\x.2.k<=4
    ·obtain⟨AI,AR⟩:=hx;by_cases hy:0<=x.2.i/\x.2.i<=255/\0<=x.2.x/\x.2.x<=65535
     ·obtain⟨Aa,Ab,Ad,Ae⟩:=hy;have j:Sm.rO x.2=true:=(by unfold Sm.rO;simp[AI,AR,Aa,Ab,Ad,Ae]);gi_wp2;exact⟨KeepsFrom.refl _ _,Below.refl _ _,⟨J,by rw[List.map_append,List.map_cons,List.map_nil,mr,I,j];rfl⟩,R⟩
     ·have j:Sm.rO x.2=false:=(by unfold Sm.rO;simp;omega);gi_wp2;all_goals exact⟨(KeepsOthers.setCell _ _ _).from _,⟨⟨rfl,by rw[List.map_append,List.map_cons,List.map_nil,mr,j,Bool.and_false]⟩,J.aC 0 _⟩,A5⟩
    ·have j:Sm.rO x.2=false:=(by unfold Sm.rO;simp;omega);gi_wp2;all_goals exact⟨(KeepsOthers.setCell _ _ _).from _,⟨⟨rfl,by rw[List.map_append,List.map_cons,List.map_nil,mr,j,Bool.and_false]⟩,J.aC 0 _⟩,A5⟩
   case done=>rintro D ys W hD A' ⟨⟨J,I⟩,R⟩ hK;subst hT;have cS:=J.cell 0;have fS:=J.frozen 0;gi_wp2;have A6:=(KeepsOthers.setCell W (ae (w.heap.size+1) 0) (.bool true)).same D _ hK rfl;refine⟨by simp,.inl ⟨_,_,rfl,run_takeDeferred A6,?_⟩⟩;have A0:=(J.aC 0 (.bool true)).grown (grownBy_putObj' _ D (.deferred none)) (λe=>by injection e with e;omega);have A3:=A0.cell 0;rw[A',ui _ _ lh,List.take_length]at I;exact⟨.bool true,by simp[results,results313,go_sem,A3],by rw[I],(R.setCell (p:=ae (w.heap.size+1) 0) sj _).trans (belowK_b (w:=w) lh _ D _ _ om A6 rfl rfl)⟩
   case stop=>
    rintro D c9 pre W hD ⟨k,hk,A'⟩ ⟨⟨⟨rfl,I⟩,J⟩,R⟩ hK;subst hT;gi_wp2;refine⟨by simp,.inl ⟨_,_,rfl,run_takeDeferred hK,?_⟩⟩;have A0:=J.grown (grownBy_putObj' _ D (.deferred none)) (λe=>by injection e with e;omega);have A3:=A0.cell 0;rw[A',ui _ _ hk]at I;have A7:l.all Sm.rO=false:=by
     cases h:l.all Sm.rO with
     |false=>rfl
     |true=>rw[List.all_eq_true.2 λy hy=>List.all_eq_true.1 h y (List.mem_of_mem_take hy)]at I;cases I
    exact⟨.bool false,by simp[results,results313,go_sem,A3],by rw[A7],R.trans (belowK_b (w:=w) lh _ D _ _ om hK rfl rfl)⟩
  ·have hM:Sm.aV ⟨s,n,e,l⟩=false:=(by unfold Sm.aV Sm.De;simp;omega);rw[hM];gi_wp2;all_goals exact⟨_,by simp[results,results313,go_sem,o],rfl,U⟩
 ·have hM:Sm.aV ⟨s,n,e,l⟩=false:=(by unfold Sm.aV Sm.De;simp;omega);rw[hM];gi_wp2;all_goals exact⟨_,by simp[results,results313,go_sem,o],rfl,U⟩
theorem wJ (s n:Int) (e:Bool) (vl:Value) (l:List Sm.En) (w:World) (hl:bP w w.heap.size vl l):
 Calls prog 313 #[.agg #[i6 s,i6 n,.bool e,vl]] w λr w'=>r=.returned (.bool (Sm.aV ⟨s,n,e,l⟩))/\Bw w w':=
 callsIn_wide.1 (GD s n e vl l w hl)
end SmW
namespace SmW
open Go.RowKit
def Jv (l:List UInt8) (w:World) (e:Ending) (w':World):Prop:=∃u,e=.returned (.tuple #[u,i6 0])/\ju w.heap.size w' u l/\Bw w w'
theorem ee.aG {w:World} {base e:Nat} {v:Value} {l:List (Int×Nat)} (h:w.ownsRow base e 2 v l.length (bg l)):ee w w.heap.size v l:=bw.aG h
theorem EY (wd:Int) (v:Nat) (w:World) (hv:v<9223372036854775808):
 Calls prog 316 #[i6 wd,i6 (v:Int)] w λe w'=>e=.returned (.agg #[i6 wd,.int .u64 (v:Int)])/\Bw w w':=by
 go_enter func316,ntmps316;go_wp2;refine bodyPost_ret (v:=.agg #[i6 wd,.int .u64 (v:Int)]) (by simp[results,results316,go_sem]) rfl ⟨rfl,?_⟩;exact bh.alloc lh _
theorem fI (wd z:Int) (v:Nat) (hz:z=v) (w:World) (hv:v<9223372036854775808):
 Calls prog 316 #[i6 wd,i6 z] w λe w'=>e=.returned (.agg #[i6 wd,.int .u64 (v:Int)])/\Bw w w':=by
 subst hz;exact EY wd v w hv
def hS (p:Sm.Pt):List (Int×Nat):=[(4,1752397165),(6,p.s.toNat),(4,p.n.toNat),(1,p.l.length),(1,p.e.toNat)]
def eS (y:Sm.En):List (Int×Nat):=[(1,y.k.toNat),(1,y.i.toNat),(2,y.x.toNat),(4,y.s)]
def pS (l:List Sm.En):List (Int×Nat):=l.flatMap eS
theorem Hh (l:List Sm.En) (y:Sm.En):pS (l++[y])=pS l++eS y:=by unfold pS;rw[List.flatMap_append];simp
theorem Lf (l:List Sm.En): (pS l).length=4*l.length:=by
 induction l with
 |nil=>rfl
 |cons x l ih=>unfold pS at ih|-;rw[List.flatMap_cons,List.length_append,ih,List.length_cons];show 4+_=_;omega
theorem FF:∀l:List Sm.En,(Sm.eW l.length).zip (Sm.eV l)=pS l
 |[]=>rfl
 |y::l=>by rw[Sm.sx,List.length_cons,Sm.eW,List.zip_cons_cons,List.zip_cons_cons,List.zip_cons_cons,List.zip_cons_cons,FF l];unfold pS;rw[List.flatMap_cons];rfl
theorem x9 (p:Sm.Pt): (Sm.Gu p.l.length).zip (Sm.JG p)=hS p++pS p.l:=by unfold Sm.Gu Sm.JG;rw[Sm.eK _ _ _ _ rfl,FF];rfl
theorem Jb {L:List (Int×Nat)} (h:∀x∈L,Pk.iQ x=0):∀x∈L,x.2<18446744073709551616:=by intro x hx;have I:=Pk.lR (h x hx);have J:256^x.1.toNat<=256^8:=Nat.pow_le_pow_right om om;omega
theorem yy (y:Sm.En) (v:Value) (b:List UInt8) (w:World) (hb:Bs w w.heap.size v b) (hH:a7 w):
 Calls prog 315 #[.agg #[i6 y.k,i6 y.i,i6 y.x,.int .u32 (y.s:Int)],v] w λe w'=>e=.returned (.agg #[i6 y.k,i6 y.i,i6 y.x,.int .u32 (Crc.sum b:Int)])/\Bw w w':=by
 have I:=((Below.refl w.heap.size w).alloc lh (.cells #[i6 y.k,i6 y.i,i6 y.x,.int .u32 (y.s:Int)] 310)).alloc sj (.cells #[i6 0,i6 0,i6 0,.int .u32 0] 310);have J:=(hb.below I).more I.size;obtain⟨A,c,rfl,U,hm,_⟩:=hb.open_;go_enter func315,ntmps315;go_wp2_with fail
 refine(nT _ _ _ [b] ((hH.ext I).alloc _) (oL.Jo _ J sj)).mono ?_;rintro e j ⟨rfl,rfl⟩;rw[show [b].flatten=b by simp];go_wp2;have R:=(ak.new (w.alloc (.cells #[i6 y.k,i6 y.i,i6 y.x,.int .u32 (Crc.sum b:Int)] 310)) 310 #[i6 y.k,i6 y.i,i6 y.x,.int .u32 (Crc.sum b:Int)]).alloc (.cells #[.slice A b.length c] 23);rw[World.size_alloc]at R;refine bodyPost_ret (cZ _ _ results315 rfl R.range underlying310 rfl kj) rfl ⟨rfl,?_⟩;exact((bh.alloc lh _).alloc sj _).alloc (by simp;omega) _
end SmW
namespace SmW
open Go.RowKit
attribute [local go_sem] Oper.semAt_some
theorem GM (l:List Sm.En) (k:Nat) (hk:k<=l.length):∀x∈idx l k,x∈idx l l.length:=by intro x hx;unfold idx at hx|-;obtain⟨j,I,rfl⟩:=List.mem_map.1 hx;exact List.mem_map.2 ⟨j,List.mem_range.2 (Nat.lt_of_lt_of_le (List.mem_range.1 I) hk),rfl⟩
def pQ (bl:List (List UInt8)) (x:Nat×Sm.En):Sm.En:={x.2 with s:=Crc.sum (bl.getD x.1 [])}
def gD (l:List Sm.En) (bl:List (List UInt8)):List Sm.En:=(idx l l.length).map (pQ bl)
def BA (bl:List (List UInt8)) (x:Nat×Sm.En):Bool:=(bl.getD x.1 []).length==128
def lP (bl:List (List UInt8)) (pre:List (Nat×Sm.En)):Bool:=pre.all (BA bl)
theorem BH (bl:List (List UInt8)) (pre:List (Nat×Sm.En)) (x:Nat×Sm.En):lP bl (pre++[x])=(lP bl pre&&BA bl x):=by unfold lP;rw[List.all_append,List.all_cons,List.all_nil,Bool.and_true]
def wX (p:Sm.Pt) (bl:List (List UInt8)):Bool:=(bl.length==p.l.length)&&Sm.aV p&&lP bl (idx p.l p.l.length)
theorem de (l:List Sm.En):∀u∈aK l,u.oneCell'=true:=by intro u hu;unfold aK at hu;obtain⟨p,_,hp⟩:=List.mem_flatMap.1 hu;simp only[qJ,List.mem_cons,List.not_mem_nil,or_false]at hp;rcases hp with rfl|rfl|rfl|rfl<;>rfl
theorem tH {W:World} {g h:Nat} {cs:List Value} {er:Int} (dS:ak W g 369 cs) (jr:ak W h 28 [i6 er]) (hi: (prog.info? 369).map (·.size)=some cs.length) (tmps:Array Value) (h10:tmps.getD 10 undef=pt g 0) (h11:tmps.getD 11 undef=pt h 0):
 (results f280 tmps).run prog W=.ok (.tuple #[.agg cs.toArray,i6 er]) W:=by
 have J:=run_loadVar_mid (P:=prog) W g 0 369 cs _ dS.range underlying369 rfl hi;have R:W.cell? (ae h 0)=some (i6 er):=jr.cell 0;have I: (loadVar 28 (ae h 0)).run prog W=.ok (i6 er) W:=by simp[go_sem,R]
 rw[Array.getD_eq_getD_getElem?]at h10 h11;unfold results;rw[results280];simp[h10,h11,J,I,asAddr]
theorem ff {β:Type} (B base g:Nat) (t e:TypeId) (sz:Nat) (k:β->Nat) (f:β->List Value) (cs:β->Value->List Value):OwnFrom B (λs W=>∃v,ak W g t (cs s v)/\W.ownsRow base e sz v (k s) (f s)):=by
 rintro s A W row ⟨v,hv,R⟩ U j;refine⟨v,bC B g t (λ(_:Unit)=>cs s v) () A W row hv U j,R.kept U ?_⟩;rcases R.2 with⟨rfl,_⟩|⟨g',cap,cur,rfl,_,J,_⟩
 ·exact .inl rfl
 ·refine .inr λer=>?_;obtain⟨_,o,I,hc⟩:=j g' er.symm;rw[J]at I;cases I;cases hc
theorem cJ {w:World} {g:Nat} {t:TypeId} {cs:List Value} {base:Nat} {e:TypeId} {sz n:Nat} {v:Value} {xs:List Value} (h:w.ownsRow base e sz v n xs) (hg:ak w g t cs) (hne:e≠t) (i:Nat) (u:Value): (w.setCell (ae g i) u).ownsRow base e sz v n xs:=h.kept (nX w g i u) (.inr (λe=>aW h hg hne e.symm))
def cG (B:Nat) (w:World) (u:Value) (l:List Sm.En):Prop:=∃B',B<=B'/\w.ownsRow B' 310 4 u l.length (aK l)
theorem MP (s n:Int) (e:Bool) (vl vb:Value) (l:List Sm.En) (bl:List (List UInt8)) (w:World) (hl:bP w w.heap.size vl l) (hb:oL w w.heap.size vb bl) (hH:a7 w):
 CallsIn Fence.wide 9 prog 280 #[i6 s,i6 n,.bool e,vl,vb] w λr w'=>
  (∃u er,r=.returned (.tuple #[.agg #[i6 s,i6 n,.bool e,u],i6 er])/\wX ⟨s,n,e,l⟩ bl=true/\er=0/\cG w.heap.size w' u (gD l bl)/\Bw w w')\/
  (r=.returned (.tuple #[.agg #[i6 0,i6 0,.bool false,.slice none 0 0],i6 1])/\wX ⟨s,n,e,l⟩ bl=false/\Bw w w'):=by
 obtain⟨A,c,rfl,HA,HB,_⟩:=hl.open_;obtain⟨Ab,cb,rfl,HC,HD,_⟩:=hb.open_;have HW:=ja (show wX ⟨s,n,e,l⟩ bl=((bl.length==l.length)&&Sm.aV ⟨s,n,e,l⟩&&lP bl (idx l l.length))from rfl);refine callsIn_of_wp_marks func280 rfl trivial ?_ rfl;simp only[ntmps280,List.size_toArray,List.length_cons,List.length_nil,Nat.reduceAdd,Nat.reduceSub,Array.replicate_succ,Array.replicate_zero,List.push_toArray,List.append_toArray,List.nil_append,List.cons_append];gi_upto_region 2 with fail;have k9:=(((ak.new w 250 #[.slice Ab bl.length cb]).alloc (.cells #[i6 0,i6 0,.bool false,.slice none 0 0] 369)).alloc (.cells #[i6 0] 28)).alloc (.cells #[i6 s,i6 n,.bool e,.slice A l.length c] 369);have dS:=((ak.new (w.alloc (.cells #[.slice Ab bl.length cb] 250)) 369 #[i6 0,i6 0,.bool false,.slice none 0 0]).alloc (.cells #[i6 0] 28)).alloc (.cells #[i6 s,i6 n,.bool e,.slice A l.length c] 369);have jr:=(ak.new ((w.alloc (.cells #[.slice Ab bl.length cb] 250)).alloc (.cells #[i6 0,i6 0,.bool false,.slice none 0 0] 369)) 28 #[i6 0]).alloc (.cells #[i6 s,i6 n,.bool e,.slice A l.length c] 369);have A5:=ak.new (((w.alloc (.cells #[.slice Ab bl.length cb] 250)).alloc (.cells #[i6 0,i6 0,.bool false,.slice none 0 0] 369)).alloc (.cells #[i6 0] 28)) 369 #[i6 s,i6 n,.bool e,.slice A l.length c];have Ae:=((((Below.refl w.heap.size w).alloc lh (.cells #[.slice Ab bl.length cb] 250)).alloc sj (.cells #[i6 0,i6 0,.bool false,.slice none 0 0] 369)).alloc (by simp;omega) (.cells #[i6 0] 28)).alloc (by simp;omega) (.cells #[i6 s,i6 n,.bool e,.slice A l.length c] 369);simp only[World.size_alloc]at dS jr A5;obtain⟨w0,Cd⟩:=ex ((((w.alloc (.cells #[.slice Ab bl.length cb] 250)).alloc (.cells #[i6 0,i6 0,.bool false,.slice none 0 0] 369)).alloc (.cells #[i6 0] 28)).alloc (.cells #[i6 s,i6 n,.bool e,.slice A l.length c] 369));rw[Cd]at k9 dS jr A5 Ae|-;clear Cd;have Co:bP w0 w0.heap.size (.slice A l.length c) l:=(hl.below Ae).more Ae.size;have c9:=k9.cell 0;by_cases hlen:bl.length=l.length
 ·have F': ((bl.length:Int) != (l.length:Int))=false:=(by rw[hlen];simp);have D0:=ja hlen;have hle: (bl.length==l.length)=true:=beq_iff_eq.2 hlen;clear hlen;have c0:=A5.cell 0;have c1:=A5.cell 1;have c2:=A5.cell 2;have c3:=A5.cell 3;gi_wp2_with fail;refine⟨trivial,?_⟩;refine(callsIn_wide.2 (wJ s n e _ l w0 Co)).mono ?_;rintro e9 w1 ⟨rfl,Aw⟩;replace k9:=k9.ext Aw;replace dS:=dS.ext Aw;replace jr:=jr.ext Aw;replace A5:=A5.ext Aw;have B3:=Ae.trans (Aw.mono Ae.size);clear c0 c1 c2 c3 c9 Co Aw Ae;have d0:=dS.cell 0;have d1:=dS.cell 1;have d2:=dS.cell 2;have d3:=dS.cell 3;have d11:=jr.cell 0;have f10:=dS.frozen;have f11:=jr.frozen 0;rw[hle,Bool.true_and]at HW;clear hle;cases hm:Sm.aV ⟨s,n,e,l⟩with
  |false=>rw[hm,Bool.false_and]at HW;gi_wp2;have AI:=((((dS.aC 0 (i6 0)).aC 1 (i6 0)).aC 2 (.bool false)).aC 3 (.slice none 0 0)).cf (p:=ae (w.heap.size+1+1) 0) sj (i6 1);have AR:=((((jr.cf (p:=ae (w.heap.size+1) 0) sj (i6 0)).cf (p:=ae (w.heap.size+1) 1) sj (i6 0)).cf (p:=ae (w.heap.size+1) 2) sj (.bool false)).cf (p:=ae (w.heap.size+1) 3) sj (.slice none 0 0)).aC 0 (i6 1);have zb:=((((B3.setCell (p:=ae (w.heap.size+1) 0) sj (i6 0)).setCell (p:=ae (w.heap.size+1) 1) sj (i6 0)).setCell (p:=ae (w.heap.size+1) 2) sj (.bool false)).setCell (p:=ae (w.heap.size+1) 3) sj (.slice none 0 0)).setCell (p:=ae (w.heap.size+1+1) 0) (by simp;omega) (i6 1);exact⟨_,tH AI AR kj _ rfl rfl,.inr ⟨rfl,HW.a,zb⟩⟩
  |true=>
   rw[hm,Bool.true_and]at HW;clear d0 d1 d2 d3 d11 f10 f11;gi_upto_region 4 with fail;refine wpIn_wide.2 ?_;have m6:l.length<=13:=(Sm.eR hm).1.2.2.2.2.2;have D3:=run_mk (P:=prog) underlying264 nP 0 l.length om om om w1;rw[show(((0:Nat)):Int)=0 from rfl]at D3;have Aq:=A5.alloc (.cells (madeCells (Value.agg #[i6 0,i6 0,i6 0,.int .u32 0]).cells (l.length*4)) 310);have c3:World.cell? _ (ae (w.heap.size+1+1+1) 3)=some (.slice A l.length c):=Aq.cell 3;have f3:=Aq.frozen 3;have BB:=ak.new w1 310 (madeCells (Value.agg #[i6 0,i6 0,i6 0,.int .u32 0]).cells (l.length*4));have D5:=k9.alloc (.cells (madeCells (Value.agg #[i6 0,i6 0,i6 0,.int .u32 0]).cells (l.length*4)) 310);have B5:=dS.alloc (.cells (madeCells (Value.agg #[i6 0,i6 0,i6 0,.int .u32 0]).cells (l.length*4)) 310);have B6:=jr.alloc (.cells (madeCells (Value.agg #[i6 0,i6 0,i6 0,.int .u32 0]).cells (l.length*4)) 310);have B7:=B3.alloc B3.size (.cells (madeCells (Value.agg #[i6 0,i6 0,i6 0,.int .u32 0]).cells (l.length*4)) 310);generalize w1.alloc (.cells (madeCells (Value.agg #[i6 0,i6 0,i6 0,.int .u32 0]).cells (l.length*4)) 310)=w2 at*;(go_wp2_with fail);have B8:w.heap.size+1+1+1<w1.heap.size:=A5.lt;have Dv:w1.heap.size<w2.heap.size:=BB.lt;have A6:=Aq.aC 3 (.slice (some ⟨w1.heap.size,0,none⟩) 0 l.length);have B':=D5.cf (p:=ae (w.heap.size+1+1+1) 3) (by show w.heap.size≠w.heap.size+1+1+1;omega) (.slice (some ⟨w1.heap.size,0,none⟩) 0 l.length);have Aa:=B5.cf (p:=ae (w.heap.size+1+1+1) 3) (by show w.heap.size+1≠w.heap.size+1+1+1;omega) (.slice (some ⟨w1.heap.size,0,none⟩) 0 l.length);have Ad:=B6.cf (p:=ae (w.heap.size+1+1+1) 3) (by show w.heap.size+1+1≠w.heap.size+1+1+1;omega) (.slice (some ⟨w1.heap.size,0,none⟩) 0 l.length);have E1:=BB.cf (p:=ae (w.heap.size+1+1+1) 3) (by show w1.heap.size≠w.heap.size+1+1+1;omega) (.slice (some ⟨w1.heap.size,0,none⟩) 0 l.length);have A3:=B7.setCell (p:=ae (w.heap.size+1+1+1) 3) (by show w.heap.size<=w.heap.size+1+1+1;omega) (.slice (some ⟨w1.heap.size,0,none⟩) 0 l.length);have A8:=E1.own (base:=w.heap.size) om 0 l.length 4 (by simp[size_madeCells]) (Nat.zero_le _) (by unfold maxLen;omega);rw[Nat.zero_mul,List.take_zero]at A8;simp only[List.set_cons_succ,List.set_cons_zero]at A6;clear D3 c3 f3 BB D5 B5 B6 B7 Aq E1 k9 dS jr A5 B3 B8;obtain⟨w3,BO⟩:=ex (w2.setCell (ae (w.heap.size+1+1+1) 3) (.slice (some ⟨w1.heap.size,0,none⟩) 0 l.length));rw[BO]at B' Aa Ad A6 A8 A3|-;have E4:w2.heap.size=w3.heap.size:=(by rw[<-BO];simp);rw[E4]at Dv;generalize w1.heap.size=g33 at*;clear BO E4 w1 w2;gi_wp2_with (refine⟨trivial,?_⟩;gi_at_call 314;refine(callsIn_wide.2 (jT _ _ _ _)).mono ?_;rintro e w' ⟨rfl,rfl⟩);have k6:=ak.new w3 264 #[.slice A l.length c];replace B':=B'.alloc (.cells #[.slice A l.length c] 264);replace Aa:=Aa.alloc (.cells #[.slice A l.length c] 264);replace Ad:=Ad.alloc (.cells #[.slice A l.length c] 264);replace A6:=A6.alloc (.cells #[.slice A l.length c] 264);replace A8:=A8.alloc (.cells #[.slice A l.length c] 264);replace A3:=A3.alloc A3.size (.cells #[.slice A l.length c] 264);have E5:w3.heap.size<(w3.alloc (.cells #[.slice A l.length c] 264)).heap.size:=(by simp);obtain⟨W0,E6⟩:=ex (w3.alloc (.cells #[.slice A l.length c] 264));rw[E6]at B' Aa Ad A6 k6 A8 A3 E5|-;clear E6;generalize w3.heap.size=g6 at*;clear w3;have B8:=A6.lt;generalize hT:Act.mk _ _=a0;refine wpIn_rangeFunc_ownH rfl dc (gf:=327) (lb:=#[pt g6 0]) (by subst hT;rfl) trivial (enters_of func327 kj rfl)
    (gS 8 dc g6 w.heap.size _ l W0 E5 A3.size (k6.cell 0) (hl.below A3)) belowK_t (belowK_b A3.size) bh (λ_=>rfl)
    (λpre W=>(((((∃v,ak W (w.heap.size+1+1+1) 369 [i6 s,i6 n,.bool e,v]/\W.ownsRow w.heap.size 310 4 v pre.length (aK ((pre.map (·.1)).map (pQ bl))))/\ak W w.heap.size 250 [.slice Ab bl.length cb])/\ak W (w.heap.size+1) 369 [i6 0,i6 0,.bool false,.slice none 0 0])/\ak W (w.heap.size+1+1) 28 [i6 0])/\lP bl (pre.map (·.1))=true)/\Bw w W)
    (λc pre W=>(((c=.ret/\lP bl (pre.map (·.1))=false)/\ak W (w.heap.size+1) 369 [i6 0,i6 0,.bool false,.slice none 0 0])/\ak W (w.heap.size+1+1) 28 [i6 1])/\Bw w W)
    (OwnFrom.and (OwnFrom.and (OwnFrom.and (OwnFrom.and (OwnFrom.and (ff _ _ _ _ _ _ (λpre:List (fk l)=>pre.length) (λpre=>aK ((pre.map (·.1)).map (pQ bl))) (λ_ v=>[i6 s,i6 n,.bool e,v])) (bC _ _ _ _)) (bC _ _ _ _)) (bC _ _ _ _)) (ownFrom_pure _ _)) (ownFrom_below lh A3.size))
    (λc=>OwnFrom.and (OwnFrom.and (OwnFrom.and (ownFrom_pure _ _) (bC _ _ _ _)) (bC _ _ _ _)) (ownFrom_below lh A3.size))
    ⟨⟨⟨⟨⟨⟨_,A6,A8⟩,B'⟩,Aa⟩,Ad⟩,rfl⟩,A3⟩
    (λx a' W=>∃B,w.heap.size+1+1+1<B/\ak W B 310 [i6 x.1.2.k,i6 x.1.2.i,i6 x.1.2.x,.int .u32 (x.1.2.s:Int)]/\
     a'={tmps:=(((a0.tmps.setIfInBounds 37 (i6 (x.1.1:Int))).setIfInBounds 38 (.agg #[i6 x.1.2.k,i6 x.1.2.i,i6 x.1.2.x,.int .u32 (x.1.2.s:Int)])).setIfInBounds 13 (i6 (x.1.1:Int))).setIfInBounds 14 (pt B 0),defers:=[]})
    (λx a'=>by intro _ A1 A2 row hs hg hr;obtain⟨B,hB,hk,ha⟩:=hs;exact⟨B,hB,bC W0.heap.size B _ (λ(_:Unit)=>_) () A1 A2 row hk hg hr,ha⟩)
    ?assign ?body ?done ?stop
   case assign=>rintro l9 pre ⟨x,Ah⟩ W K ⟨⟨⟨⟨⟨⟨v,bv,A4⟩,F0⟩,F1⟩,F2⟩,J⟩,U⟩ hK;subst hT;unfold jt at*;dsimp only at*;gi_wp2;exact hK _ _ ((KeepsOthers.alloc _ _).from _) ((Below.refl _ W).alloc U.size _) ⟨⟨⟨⟨⟨⟨v,bv.alloc _,A4.alloc _⟩,F0.alloc _⟩,F1.alloc _⟩,F2.alloc _⟩,J⟩,U.alloc U.size _⟩ ⟨W.heap.size,bv.lt,ak.new W _ _,rfl⟩
   case body=>
    rintro l9 pre ⟨⟨ix,y⟩,Ah⟩ a' W F3 ⟨r9,F4⟩ ⟨⟨⟨⟨⟨⟨v,bv,A4⟩,Ax⟩,I⟩,R⟩,J⟩,U⟩ ⟨Bx,HE,bX,rfl⟩ HF;subst hT;dsimp only at bX;simp only[List.setIfInBounds_toArray,List.set_cons_succ,List.set_cons_zero];have E7:ix<bl.length:=(by have:=(List.getElem?_eq_some_iff.1 Ah).1;dsimp only at this;have:=D0.a;omega);have BQ:lP bl ((pre++[(⟨(ix,y),Ah⟩:fk l)]).map (·.1))=(lP bl (pre.map (·.1))&&BA bl (ix,y)):=(by rw[List.map_append];exact BH _ _ _);have E8: ((pre++[(⟨(ix,y),Ah⟩:fk l)]).map (·.1)).map (pQ bl)=(pre.map (·.1)).map (pQ bl)++[pQ bl (ix,y)]:=(by rw[List.map_append,List.map_append];rfl);have F5: (pre++[(⟨(ix,y),Ah⟩:fk l)]).length=pre.length+1:=(by simp);generalize pre++[(⟨(ix,y),Ah⟩:fk l)]=px at*;clear Ah F3 F4;have E9:=hb.ext lh U;obtain⟨A2,c2,F6,_,_,B0⟩:=E9.open_;obtain⟨b,off,u,F7,F8,FZ,Bg⟩:=B0 ix E7;have Bt:bl.getD ix []=bl[ix]:=(by rw[List.getD_eq_getElem?_getD,List.getElem?_eq_getElem E7];rfl);have HO:=ja (show BA bl (ix,y)=(bl[ix].length==128) by unfold BA;rw[Bt]);have HS:=ja (show pQ bl (ix,y)={y with s:=Crc.sum bl[ix]} by unfold pQ;rw[Bt]);injection F6 with e1 e2 e3;subst e1 e3;clear B0 e2;generalize bl[ix]=bi at*;obtain⟨Au,cu,rfl,_,_,_⟩:=Bg.open_;have EC:=Bg.more U.size;subst F7;clear Bt Bg E9;have c9:=Ax.cell 0;by_cases A9:bi.length=128
    ·have hz: ((bi.length:Int) != 128)=false:=(by rw[A9];rfl);have B4: (bi.length==128)=true:=beq_iff_eq.2 A9;have H6:=ja A9;clear A9;gi_upto_region 10 with fail;clear c9;have G1:Bw W W.drew:=bh.drew;have G2:b<W.heap.size:=Nat.lt_of_lt_of_le F8 U.size;refine j4 (by rintro⟨_,_,h⟩;exact h) kj 12 9 [(ez (pt (w.heap.size+1+1+1) 3)),(ez v),(ez (.agg #[i6 y.k,i6 y.i,i6 y.x,.int .u32 (y.s:Int)])),(ez (.slice (some ⟨b,off,none⟩) bl.length cb)),(ez (i6 ((ix:Nat):Int))),(ez (pt b (off+ix))),(ez (.slice Au bi.length cu)),(ez (.agg #[i6 y.k,i6 y.i,i6 y.x,.int .u32 (Crc.sum bi:Int)])),(λu q=>∃g,u=.slice (some ⟨g,0,none⟩) 1 1/\ak q g 310 (aK [{y with s:=Crc.sum bi}])/\W.heap.size<=g)]
      (λq=>Bw W q) kj rfl dc kj kj ?_ ?_ ?_ ?_
     ·exact G1
     ·exact⟨ah _,ah _,ah _,ah _,ah _,ah _,ah _,ah _,λ_ _ _ ⟨g,h1,h2,h3⟩ hb=>⟨g,h1,h2.ext hb,h3⟩,trivial⟩
     ·refine⟨rz [] [12],rx [0,46] [] λx hG=>((cl hG bv.lt (bv.cell 3)):x.cell? (ae (w.heap.size+1+1+1) 3)=some v),?_,rx [] [9] λx hG=>((cl hG Ax.lt (Ax.cell 0)):x.cell? (ae w.heap.size 0)=some (.slice (some ⟨b,off,none⟩) bl.length cb)),rz [] [13],rz [3,49,4,50] [],rx [5,51] [] λx hG=>((cl hG G2 FZ):x.cell? (ae b (off+ix))=some (.slice Au bi.length cu)),?_,?_,trivial⟩
      ·intro a x hG hd hs K hK;have G5:_=_:=hs 14 kj;clear hd hs;refine pj ?_;refine wp_load_mid 310 (.tmp 14) rfl Bx 0 G5 [i6 y.k,i6 y.i,i6 y.x,.int .u32 (y.s:Int)] _ (ak.ext bX hG).range underlying310 rfl kj ?_;exact hK _ _ rfl hG bh
      ·intro a x hG hd hs K hK;have HG:_=_:=hd 2 48 kj;have HH:_=_:=hd 6 52 kj;clear hd hs;refine pj ?_;go_simp;exact(yy y _ bi _ ((EC.ext lh hG).more hG.size) (hH.ext (U.trans (hG.mono U.size)))).mono rj
      ·intro a x hG hd hs K hK;have G7:_=_:=hd 7 53 kj;have H7:=aA G7;clear hd hs;refine pj ?_;go_simp;exact hK _ _ ⟨x.heap.size,rfl,ak.new x _ _,hG.size⟩ (hG.alloc hG.size _) (bh.alloc lh _)
     ·intro x hG;(iterate 8 rintro _ rfl);rintro v8 G8;simp only[ap];rw[show List.range' 9 (12-9)=[9,10,11]from rfl,wpOps_cons];rename_i v;obtain⟨gn,rfl,kn,HI⟩:=G8;have A0:=A4.kept (aI hG none) (by cases h:v.ownBlock with|none=>exact .inl rfl|some _=>exact .inr sj);have hr:=kn.fe 0 1 1 4 (by show 0+1*4<=4;decide) lh (by simp[maxLen]);rw[List.drop_zero,List.take_of_length_le (show(4:Nat)<=1*4 by decide)]at hr;obtain⟨v',wa,Bu,Ao,A7,_⟩:=aE (P:=prog) (ty:=264) underlying264 nP rfl dc A0 hr (de _) (by rw[aq];omega) om (Nat.le_trans U.size hG.size);refine pj ?_;refine c_ 47 54 264 rfl rfl rfl Bu ?_;rw[wpOps_cons];refine pj ?_;have bx:ak x (w.heap.size+1+1+1) 369 [i6 s,i6 n,.bool e,v]:=ak.ext bv hG;have ba:=bx.grown A7 (aW A0 bx dc);have b9:=(ak.ext Ax hG).grown A7 (aW A0 (ak.ext Ax hG) dc);have B1:=(ak.ext I hG).grown A7 (aW A0 (ak.ext I hG) dc);have kT:=(ak.ext R hG).grown A7 (aW A0 (ak.ext R hG) dc);have cS:wa.cell? (ae (w.heap.size+1+1+1) 3)=some v:=ba.cell 3;have fS:=ba.frozen 3;obtain⟨A',c',rfl⟩:=bS Ao;have EK:∀(j:Nat) (o:Obj),v.ownBlock=some j->x.heap[j]? =some o->o.isCells=true:=λj o e ho=>by
       rcases A0.2 with⟨rfl,_⟩|⟨g',H9,cur,rfl,_,H0,_⟩
       ·cases e
       ·cases e;rw[H0]at ho;cases ho;rfl
      have Ar:=((hG.mono U.size).grown A7 (Nat.le_trans U.size hG.size) (λg e=>(A0.lt g e).1)).setCell (p:=ae (w.heap.size+1+1+1) 3) (by show w.heap.size<=w.heap.size+1+1+1;omega) (.slice A' (pre.length+1) c');have By:=((KeepsOthers.of_grownBy (aI hG none) (λj o e=>by cases e)).trans (KeepsOthers.of_grownBy A7 EK)).trans (KeepsOthers.setCell wa (ae (w.heap.size+1+1+1) 3) (.slice A' (pre.length+1) c'));have As:=cJ Ao ba dc 3 (.slice A' (pre.length+1) c');have C4:=ba.aC 3 (.slice A' (pre.length+1) c');replace b9:=b9.cf (p:=ae (w.heap.size+1+1+1) 3) (by show w.heap.size≠w.heap.size+1+1+1;omega) (.slice A' (pre.length+1) c');replace B1:=B1.cf (p:=ae (w.heap.size+1+1+1) 3) (by show w.heap.size+1≠w.heap.size+1+1+1;omega) (.slice A' (pre.length+1) c');replace kT:=kT.cf (p:=ae (w.heap.size+1+1+1) 3) (by show w.heap.size+1+1≠w.heap.size+1+1+1;omega) (.slice A' (pre.length+1) c');have B9:aK ((pre.map (·.1)).map (pQ bl))++aK [{y with s:=Crc.sum bi}]=aK ((px.map (·.1)).map (pQ bl)):=(by rw[E8,HS.a,da]);rw[B9]at As;have H2:lP bl (px.map (·.1))=true:=(by rw[BQ,HO.a,B4,J];rfl);clear EK A7 Ao A0 A4 bx kn B9 E8 hr BQ J B4 hz;refine Oper.wp_mono (K:=λa9 w'=>w'=wa/\a9.tmps.getD 55 undef=.slice A' (pre.length+1) c'/\a9.tmps.getD 56 undef=pt (w.heap.size+1+1+1) 3) ?_ ?_
      ·rintro a9 w9 ⟨e9,HK,HL⟩;rw[e9];clear e9 w9;rw[wpOps_cons];refine pj ?_;refine Oper.wp_mono (K:=λ_ w'=>w'=World.setCell wa (ae (w.heap.size+1+1+1) 3) (.slice A' (pre.length+1) c')) ?_ ?_
       ·rintro a8 _ rfl;show KeepsFrom W0.heap.size W _/\Below w.heap.size W _/\_;refine⟨By.from _,Ar,⟨⟨⟨⟨⟨_,C4,?_⟩,b9⟩,B1⟩,kT⟩,H2⟩,U.trans Ar⟩;rw[F5];exact As
       ·clear By Ar As C4 b9 B1 kT;go_simp
      ·clear By Ar As C4 b9 B1 kT;simp only[Act.put];go_simp
    ·have hz: ((bi.length:Int) != 128)=true:=bne_iff_ne.2 om;have B4: (bi.length==128)=false:=beq_eq_false_iff_ne.2 A9;clear A9;have d0:=I.cell 0;have d1:=I.cell 1;have d2:=I.cell 2;have d3:=I.cell 3;have d11:=R.cell 0;have f10:=I.frozen;have f11:=R.frozen 0;gi_wp2;have AI:=((((I.aC 0 (i6 0)).aC 1 (i6 0)).aC 2 (.bool false)).aC 3 (.slice none 0 0)).cf (p:=ae (w.heap.size+1+1) 0) sj (i6 1);have AR:=((((R.cf (p:=ae (w.heap.size+1) 0) sj (i6 0)).cf (p:=ae (w.heap.size+1) 1) sj (i6 0)).cf (p:=ae (w.heap.size+1) 2) sj (.bool false)).cf (p:=ae (w.heap.size+1) 3) sj (.slice none 0 0)).aC 0 (i6 1);have zb:=((((U.setCell (p:=ae (w.heap.size+1) 0) sj (i6 0)).setCell (p:=ae (w.heap.size+1) 1) sj (i6 0)).setCell (p:=ae (w.heap.size+1) 2) sj (.bool false)).setCell (p:=ae (w.heap.size+1) 3) sj (.slice none 0 0)).setCell (p:=ae (w.heap.size+1+1) 0) (by simp;omega) (i6 1);have zk:=((((KeepsOthers.setCell W (ae (w.heap.size+1) 0) (i6 0)).trans (KeepsOthers.setCell _ (ae (w.heap.size+1) 1) (i6 0))).trans (KeepsOthers.setCell _ (ae (w.heap.size+1) 2) (.bool false))).trans (KeepsOthers.setCell _ (ae (w.heap.size+1) 3) (.slice none 0 0))).trans (KeepsOthers.setCell _ (ae (w.heap.size+1+1) 0) (i6 1));exact⟨zk.from _,⟨⟨⟨rfl,by rw[BQ,HO.a,B4,Bool.and_false]⟩,AI⟩,AR⟩,zb⟩
   case done=>rintro D ys W hD B2 ⟨⟨⟨⟨⟨⟨v,bv,A4⟩,Ax⟩,I⟩,R⟩,J⟩,U⟩ hK;subst hT;obtain⟨Av,cv,rfl⟩:=bS A4;have c0:=bv.cell 0;have c1:=bv.cell 1;have c2:=bv.cell 2;have c3:=bv.cell 3;have d0:=I.cell 0;have d1:=I.cell 1;have d2:=I.cell 2;have d3:=I.cell 3;have d11:=R.cell 0;have f10:=I.frozen;have f11:=R.frozen 0;rw[B2]at J A4;have HY:=ja B2;clear B2;gi_wp2;have hlen:ys.length=l.length:=(by have:=congrArg List.length HY.a;rw[List.length_map,iG]at this;exact this);have AI:=((((I.aC 0 (i6 s)).aC 1 (i6 n)).aC 2 (.bool e)).aC 3 (.slice Av ys.length cv)).cf (p:=ae (w.heap.size+1+1) 0) sj (i6 0);have AR:=((((R.cf (p:=ae (w.heap.size+1) 0) sj (i6 s)).cf (p:=ae (w.heap.size+1) 1) sj (i6 n)).cf (p:=ae (w.heap.size+1) 2) sj (.bool e)).cf (p:=ae (w.heap.size+1) 3) sj (.slice Av ys.length cv)).aC 0 (i6 0);have zb:=((((U.setCell (p:=ae (w.heap.size+1) 0) sj (i6 s)).setCell (p:=ae (w.heap.size+1) 1) sj (i6 n)).setCell (p:=ae (w.heap.size+1) 2) sj (.bool e)).setCell (p:=ae (w.heap.size+1) 3) sj (.slice Av ys.length cv)).setCell (p:=ae (w.heap.size+1+1) 0) (by simp;omega) (i6 0);have zk:=((((KeepsOthers.setCell W (ae (w.heap.size+1) 0) (i6 s)).trans (KeepsOthers.setCell _ (ae (w.heap.size+1) 1) (i6 n))).trans (KeepsOthers.setCell _ (ae (w.heap.size+1) 2) (.bool e))).trans (KeepsOthers.setCell _ (ae (w.heap.size+1) 3) (.slice Av ys.length cv))).trans (KeepsOthers.setCell _ (ae (w.heap.size+1+1) 0) (i6 0));have y1:=I.aC 0 (i6 s);have y2:=y1.aC 1 (i6 n);have y3:=y2.aC 2 (.bool e);have y4:=y3.aC 3 (.slice Av ys.length cv);have y5:=(((R.cf (p:=ae (w.heap.size+1) 0) sj (i6 s)).cf (p:=ae (w.heap.size+1) 1) sj (i6 n)).cf (p:=ae (w.heap.size+1) 2) sj (.bool e)).cf (p:=ae (w.heap.size+1) 3) sj (.slice Av ys.length cv);have zo:=cJ (cJ (cJ (cJ (cJ A4 I dc 0 (i6 s)) y1 dc 1 (i6 n)) y2 dc 2 (.bool e)) y3 dc 3 (.slice Av ys.length cv)) y5 dc 0 (i6 0);have CC:=zk.same D _ hK rfl;refine⟨by simp,.inl ⟨_,_,rfl,run_takeDeferred CC,?_⟩⟩;have H3:=AI.grown (grownBy_putObj' _ D (.deferred none)) (λe=>by injection e with e;omega);have H4:=AR.grown (grownBy_putObj' _ D (.deferred none)) (λe=>by injection e with e;omega);have H5:cG w.heap.size _ (.slice Av ys.length cv) (gD l bl):=⟨_,(by first|exact Nat.le_refl _|omega),by rw[show(gD l bl).length=ys.length by unfold gD;rw[List.length_map,iG,hlen]];exact ownsRow_putObj zo (.deferred none) CC rfl⟩;exact⟨_,tH H3 H4 kj _ rfl rfl,.inl ⟨_,0,rfl,by rw[HW.a,J],rfl,H5,zb.trans (belowK_b (w:=w) lh _ D _ _ (Nat.le_trans A3.size hD) CC rfl rfl)⟩⟩
   case stop=>
    rintro D c9 pre W hD ⟨k,hk,B2⟩ ⟨⟨⟨⟨rfl,J⟩,I⟩,R⟩,U⟩ hK;subst hT;gi_wp2;refine⟨by simp,.inl ⟨_,_,rfl,run_takeDeferred hK,?_⟩⟩;have AI:=I.grown (grownBy_putObj' _ D (.deferred none)) (λe=>by injection e with e;omega);have AR:=R.grown (grownBy_putObj' _ D (.deferred none)) (λe=>by injection e with e;omega);rw[B2]at J;have EX:lP bl (idx l l.length)=false:=by
     cases h:lP bl (idx l l.length)with
     |false=>rfl
     |true=>unfold lP at h J;rw[List.all_eq_true.2 λy hy=>List.all_eq_true.1 h y (GM l k hk y hy)]at J;cases J
    exact⟨_,tH AI AR kj _ rfl rfl,.inr ⟨rfl,by rw[HW.a,EX],U.trans (belowK_b (w:=w) lh _ D _ _ (Nat.le_trans A3.size hD) hK rfl rfl)⟩⟩
 ·have F': ((bl.length:Int) != (l.length:Int))=true:=bne_iff_ne.2 om;rw[show(bl.length==l.length)=false from beq_eq_false_iff_ne.2 hlen,Bool.false_and,Bool.false_and]at HW;clear hlen;have d0:=dS.cell 0;have d1:=dS.cell 1;have d2:=dS.cell 2;have d3:=dS.cell 3;have d11:=jr.cell 0;have f10:=dS.frozen;have f11:=jr.frozen 0;gi_wp2;refine⟨trivial,?_⟩;gi_wp2;have AI:=((((dS.aC 0 (i6 0)).aC 1 (i6 0)).aC 2 (.bool false)).aC 3 (.slice none 0 0)).cf (p:=ae (w.heap.size+1+1) 0) sj (i6 1);have AR:=((((jr.cf (p:=ae (w.heap.size+1) 0) sj (i6 0)).cf (p:=ae (w.heap.size+1) 1) sj (i6 0)).cf (p:=ae (w.heap.size+1) 2) sj (.bool false)).cf (p:=ae (w.heap.size+1) 3) sj (.slice none 0 0)).aC 0 (i6 1);have zb:=((((Ae.setCell (p:=ae (w.heap.size+1) 0) sj (i6 0)).setCell (p:=ae (w.heap.size+1) 1) sj (i6 0)).setCell (p:=ae (w.heap.size+1) 2) sj (.bool false)).setCell (p:=ae (w.heap.size+1) 3) sj (.slice none 0 0)).setCell (p:=ae (w.heap.size+1+1) 0) (by simp;omega) (i6 1);exact⟨_,tH AI AR kj _ rfl rfl,.inr ⟨rfl,HW.a,zb⟩⟩
theorem Lq (s n:Int) (e:Bool) (vl vb:Value) (l:List Sm.En) (bl:List (List UInt8)) (w:World) (hl:bP w w.heap.size vl l) (hb:oL w w.heap.size vb bl) (hH:a7 w):
 Calls prog 280 #[i6 s,i6 n,.bool e,vl,vb] w λr w'=>
  (∃u er,r=.returned (.tuple #[.agg #[i6 s,i6 n,.bool e,u],i6 er])/\wX ⟨s,n,e,l⟩ bl=true/\er=0/\cG w.heap.size w' u (gD l bl)/\Bw w w')\/
  (r=.returned (.tuple #[.agg #[i6 0,i6 0,.bool false,.slice none 0 0],i6 1])/\wX ⟨s,n,e,l⟩ bl=false/\Bw w w'):=
 callsIn_wide.1 (MP s n e vl vb l bl w hl hb hH)
theorem sR (s n:Int) (vl:Value) (l:List Sm.En) (w:World) (P:Sm.Pt) (hP:P=⟨s,n,true,l⟩) (hl:bP w w.heap.size vl l) (hg:Sm.Good P) (hm:Sm.aV P=true) (hH:a7 w):
 CallsIn Fence.wide 9 prog 281 #[.agg #[i6 s,i6 n,.bool true,vl]] w (Jv (Sm.MV P) w):=by
 obtain⟨A,c,rfl,H6,H7,hE⟩:=hl.open_;have HC:=ja (Sm.LW P hm hg);rw[x9]at HC;have HE:=ja (show Sm.MV P=Crc.bR (Pk.bO (hS P++pS P.l)) by rw[<-x9];rfl);have HL:=ja (Sm.zE P);rw[x9]at HL;obtain⟨⟨m1,m2,m3,m4,m5,m6⟩,Ao⟩:=Sm.eR hm;subst hP;simp only at m1 m2 m3 m4 m5 m6 Ao;obtain⟨sn,rfl⟩:=Int.eq_ofNat_of_zero_le (by omega:0<=s);obtain⟨nn,rfl⟩:=Int.eq_ofNat_of_zero_le m3;obtain⟨P,hP⟩:∃P:Sm.Pt,P=⟨sn,nn,true,l⟩:=⟨_,rfl⟩;rw[<-hP]at HC HE HL;have HP:=ja hP;have Ar:=ja (show bg (hS P)=[i6 4,.int .u64 1752397165,i6 6,.int .u64 (sn:Int),i6 4,.int .u64 (nn:Int),i6 1,.int .u64 (l.length:Int),i6 1,.int .u64 1] by subst hP;unfold bg hS;rfl);clear hP;refine callsIn_of_wp_marks func281 rfl trivial ?_ rfl;simp only[ntmps281,List.size_toArray,List.length_cons,List.length_nil,Nat.reduceAdd,Nat.reduceSub,Array.replicate_succ,Array.replicate_zero,List.push_toArray,List.append_toArray,List.nil_append,List.cons_append];have k1:=ak.new w 369 #[i6 (sn:Int),i6 (nn:Int),.bool true,.slice A l.length c];have A6:=(Below.refl w.heap.size w).alloc lh (.cells #[i6 (sn:Int),i6 (nn:Int),.bool true,.slice A l.length c] 369);gi_upto_region 1 with fail;obtain⟨w0,B5⟩:=ex (w.alloc (.cells #[i6 (sn:Int),i6 (nn:Int),.bool true,.slice A l.length c] 369));rw[B5]at k1 A6|-;clear B5;obtain⟨gq,B6⟩:=ex w.heap.size;rw[B6]at k1|-;clear B6;have c0:=k1.cell 0;have c1:=k1.cell 1;have c2:=k1.cell 2;have c3:=k1.cell 3;have As:bP w0 w0.heap.size (.slice A l.length c) l:=(hl.below A6).more A6.size;gi_wp2_with fail;refine⟨trivial,?_⟩;refine(callsIn_wide.2 (wJ sn nn true _ l w0 As)).mono ?_;rintro e9 w1 ⟨rfl,AI⟩;rw[hm];replace k1:=k1.ext AI;have A7:=A6.trans (AI.mono A6.size);have Dv:=(As.below AI).more AI.size;clear c0 c1 c2 c3 As AI A6;have c0:=k1.cell 0;have c1:=k1.cell 1;have c2:=k1.cell 2;have c3:=k1.cell 3;gi_upto_region 6 with fail;clear c0 c1 c2 c3;refine wpIn_wide.2 ?_;have Ad:Bw w1 w1.drew:=bh.drew;refine aQ 16 15 [(ez (.agg #[i6 4,.int .u64 ((1752397165:Nat):Int)])),(ez (pt gq 0)),(ez (i6 ((sn:Nat):Int))),(ez (.agg #[i6 6,.int .u64 ((sn:Nat):Int)])),(ez (pt gq 1)),(ez (i6 ((nn:Nat):Int))),(ez (.agg #[i6 4,.int .u64 ((nn:Nat):Int)])),(ez (pt gq 3)),(ez (.slice A l.length c)),(ez (i6 ((l.length:Nat):Int))),(ez (.agg #[i6 1,.int .u64 ((l.length:Nat):Int)])),(ez (i6 1)),(ez (.agg #[i6 1,.int .u64 ((1:Nat):Int)])),(λu q=>∃g,u=.slice (some ⟨g,0,none⟩) 5 5/\ak q g 200 (bg (hS P))/\w1.heap.size<=g),(λu q=>∃g,u=pt g 0/\ak q g 193 [.slice none 0 0]/\w1.heap.size<=g)]
  (λq=>Bw w1 q) kj rfl dc kj kj ?_ ?_ ?_ ?_
 ·exact Ad
 ·exact⟨ah _,ah _,ah _,ah _,ah _,ah _,ah _,ah _,ah _,ah _,ah _,ah _,ah _,λ_ _ _ ⟨g,h1,h2,h3⟩ hb=>⟨g,h1,h2.ext hb,h3⟩,λ_ _ _ ⟨g,h1,h2,h3⟩ hb=>⟨g,h1,h2.ext hb,h3⟩,trivial⟩
 ·refine⟨?_,rz [] [1],rx [1,16] [] λx hG=>((cl hG k1.lt (k1.cell 0)):x.cell? (ae gq 0)=some (i6 ((sn:Nat):Int))),?_,rz [] [1],rx [4,19] [] λx hG=>((cl hG k1.lt (k1.cell 1)):x.cell? (ae gq 1)=some (i6 ((nn:Nat):Int))),?_,rz [] [1],rx [7,22] [] λx hG=>((cl hG k1.lt (k1.cell 3)):x.cell? (ae gq 3)=some (.slice A l.length c)),rz [8,23] [],?_,rz [] [4],?_,?_,?_,trivial⟩
  ·intro a x hG hd hs K hK;clear hd hs;refine pj ?_;go_simp;exact(fI 4 _ 1752397165 om _ om).mono rj
  ·intro a x hG hd hs K hK;have H9:_=_:=hd 2 17 kj;clear hd hs;refine pj ?_;go_simp;exact(fI 6 _ sn om _ om).mono rj
  ·intro a x hG hd hs K hK;have HA:_=_:=hd 5 20 kj;clear hd hs;refine pj ?_;go_simp;exact(fI 4 _ nn om _ om).mono rj
  ·intro a x hG hd hs K hK;have HB:_=_:=hd 9 24 kj;clear hd hs;refine pj ?_;go_simp;exact(fI 1 _ l.length om _ om).mono rj
  ·intro a x hG hd hs K hK;have HD:_=_:=hd 11 26 kj;clear hd hs;refine pj ?_;go_simp;exact(fI 1 _ 1 om _ om).mono rj
  ·intro a x hG hd hs K hK;have E1:_=_:=hd 0 15 kj;have G1:=aA E1;have E4:_=_:=hd 3 18 kj;have G2:=aA E4;have E5:_=_:=hd 6 21 kj;have G5:=aA E5;have E6:_=_:=hd 10 25 kj;have G7:=aA E6;have E7:_=_:=hd 12 27 kj;have G8:=aA E7;clear hd hs;refine pj ?_;go_simp;exact hK _ _ ⟨x.heap.size,rfl,by rw[Ar.a];exact ak.new x _ _,hG.size⟩ (hG.alloc hG.size _) (bh.alloc lh _)
  ·intro a x hG hd hs K hK;clear hd hs;refine pj ?_;go_simp;exact hK _ _ ⟨x.heap.size,rfl,ak.new x _ _,hG.size⟩ (hG.alloc hG.size _) (bh.alloc lh _)
 ·intro x hG;(iterate 13 rintro _ rfl);rintro HF B7 E8 AR;simp only[ap];rw[show List.range' 15 (16-15)=[15]from rfl,wpOps_cons];obtain⟨gs,rfl,ks,B8⟩:=B7;obtain⟨g5,rfl,k5,B9⟩:=AR;refine pj ?_;have cS:=k5.cell 0;have fS:=k5.frozen 0;go_simp;unfold wpOps;simp only[Exit.then];have E9:gs≠g5:=λe=>(by subst e;have h1:x.heap[gs]? =some (.cells (bg (hS P)).toArray 200 (0,0)):=ks;have h2:x.heap[gs]? =some (.cells #[.slice none 0 0] 193 (0,0)):=k5;rw[h1]at h2;cases h2);have A8:=k5.aC 0 (.slice (some ⟨gs,0,none⟩) 5 5);have Au:=ks.cf (p:=ae g5 0) E9 (.slice (some ⟨gs,0,none⟩) 5 5);have Aw:=(k1.ext hG).cf (p:=ae g5 0) (by have:=k1.lt;show gq≠g5;omega) (.slice (some ⟨gs,0,none⟩) 5 5);have hx:=A7.trans (hG.mono A7.size);have R:=hx.setCell (p:=ae g5 0) (by show w.heap.size<=g5;have:=A7.size;omega) (.slice (some ⟨gs,0,none⟩) 5 5);obtain⟨w2,BB⟩:=ex (x.setCell (ae g5 0) (.slice (some ⟨gs,0,none⟩) 5 5));rw[BB]at A8 Au Aw R|-;have BO:w.heap.size<=g5:=Nat.le_trans A7.size B9;have BQ:w.heap.size<=gs:=Nat.le_trans A7.size B8;clear cS fS hG k5 ks hx BB k1 Dv A7 Ad B9 B8;clear x w1;have A3:=Au.own (base:=w.heap.size) BQ 5 5 2 (by rw[Ar.a];rfl) lh (by simp[maxLen]);rw[List.take_of_length_le (by rw[Ar.a];simp)]at A3;have c3:=Aw.cell 3;gi_wp2_with (refine⟨trivial,?_⟩;gi_at_call 314;refine(callsIn_wide.2 (jT _ _ _ _)).mono ?_;rintro e w' ⟨rfl,rfl⟩);have k3:=ak.new w2 264 #[.slice A l.length c];replace A8:=A8.alloc (.cells #[.slice A l.length c] 264);replace A3:=A3.alloc (.cells #[.slice A l.length c] 264);replace R:=R.alloc R.size (.cells #[.slice A l.length c] 264);have Bg:w2.heap.size<(w2.alloc (.cells #[.slice A l.length c] 264)).heap.size:=(by simp);obtain⟨W0,Bt⟩:=ex (w2.alloc (.cells #[.slice A l.length c] 264));rw[Bt]at k3 A8 A3 R Bg|-;clear Bt Au Aw c3;generalize w2.heap.size=g3 at*;clear w2;have H0:=A8.lt;generalize hT:Act.mk _ _=a0;refine wpIn_rangeFunc_ownH rfl dc (gf:=327) (lb:=#[pt g3 0]) (by subst hT;rfl) trivial (enters_of func327 kj rfl)
   (gS 8 dc g3 w.heap.size _ l W0 Bg R.size (k3.cell 0) (hl.below R)) belowK_t (belowK_b R.size) bh (λ_=>rfl)
   (λpre W=>(∃v,Boxed W g5 193 v/\W.ownsRow w.heap.size 200 2 v (5+4*pre.length) (bg (hS P++pS ((pre.map (·.1)).map (·.2))))/\True)/\Bw w W)
   (λ_ _ _=>False)
   (OwnFrom.and (Own.from (holdsRow_own w.heap.size g5 193 200 2 (λpre:List (fk l)=>5+4*pre.length) (λpre=>bg (hS P++pS ((pre.map (·.1)).map (·.2)))) (λ_ _=>True)) _) (ownFrom_below lh R.size))
   (λ_ _ _ _ _ hs _ _=>hs)
   ⟨⟨_,A8,by simpa [pS]using A3,trivial⟩,R⟩
   (λx a' W=>∃B,g5<B/\ak W B 310 [i6 x.1.2.k,i6 x.1.2.i,i6 x.1.2.x,.int .u32 (x.1.2.s:Int)]/\
    a'={tmps:=((a0.tmps.setIfInBounds 32 (i6 (x.1.1:Int))).setIfInBounds 33 (.agg #[i6 x.1.2.k,i6 x.1.2.i,i6 x.1.2.x,.int .u32 (x.1.2.s:Int)])).setIfInBounds 7 (pt B 0),defers:=[]})
   (λx a'=>by intro _ A1 A2 row hs hg hr;obtain⟨B,hB,hk,ha⟩:=hs;exact⟨B,hB,bC W0.heap.size B _ (λ(_:Unit)=>_) () A1 A2 row hk hg hr,ha⟩)
   ?assign ?body ?done ?stop
  case assign=>rintro l9 pre ⟨x,A9⟩ W K ⟨⟨v,bv,J,_⟩,U⟩ hK;subst hT;unfold jt at*;dsimp only at*;gi_wp2;exact hK _ _ ((KeepsOthers.alloc _ _).from _) ((Below.refl _ W).alloc U.size _) ⟨⟨v,bv.alloc _,J.alloc _,trivial⟩,U.alloc U.size _⟩ ⟨W.heap.size,bv.lt,ak.new W _ _,rfl⟩
  case body=>
   rintro l9 pre ⟨⟨ix,y⟩,A9⟩ a' W EC ⟨r9,EK⟩ ⟨⟨v,bv,J,_⟩,U⟩ ⟨Bx,HG,bX,rfl⟩ HH;subst hT;dsimp only at bX;simp only[List.setIfInBounds_toArray,List.set_cons_succ,List.set_cons_zero];have Aa:y∈l:=List.mem_of_getElem? A9;have Ae:=List.all_eq_true.1 Ao _ Aa;have EX:y.s<4294967296:=hg _ Aa;unfold Sm.rO at Ae;rw[decide_eq_true_iff]at Ae;have Bu:pS (((pre++[(⟨(ix,y),A9⟩:fk l)]).map (·.1)).map (·.2))=pS ((pre.map (·.1)).map (·.2))++eS y:=(by rw[List.map_append,List.map_append];exact Hh _ _);have F': (pre++[(⟨(ix,y),A9⟩:fk l)]).length=pre.length+1:=(by simp);generalize pre++[(⟨(ix,y),A9⟩:fk l)]=px at*;clear A9 Aa EC EK;obtain⟨yk,yi,yx,ys⟩:=y;dsimp only at bX Ae EX;obtain⟨n1,n2,n3,n4,n5,n6⟩:=Ae;obtain⟨yk,rfl⟩:=Int.eq_ofNat_of_zero_le (by omega:0<=yk);obtain⟨yi,rfl⟩:=Int.eq_ofNat_of_zero_le n3;obtain⟨yx,rfl⟩:=Int.eq_ofNat_of_zero_le n5;refine wpIn_block ?_;have Ad:Bw W W.drew:=bh.drew;refine j4 (by rintro⟨_,_,h⟩;exact h) kj 17 15 [(ez v),(ez (pt Bx 0)),(ez (i6 ((yk:Nat):Int))),(ez (.agg #[i6 1,.int .u64 ((yk:Nat):Int)])),(ez (pt Bx 1)),(ez (i6 ((yi:Nat):Int))),(ez (.agg #[i6 1,.int .u64 ((yi:Nat):Int)])),(ez (pt Bx 2)),(ez (i6 ((yx:Nat):Int))),(ez (.agg #[i6 2,.int .u64 ((yx:Nat):Int)])),(ez (pt Bx 3)),(ez (.int .u32 ((ys:Nat):Int))),(ez (i6 ((ys:Nat):Int))),(ez (.agg #[i6 4,.int .u64 ((ys:Nat):Int)])),(λu q=>∃g,u=.slice (some ⟨g,0,none⟩) 4 4/\ak q g 200 (bg (eS ⟨yk,yi,yx,ys⟩))/\W.heap.size<=g)]
    (λq=>Bw W q) kj rfl dc kj kj ?_ ?_ ?_ ?_
   ·exact Ad
   ·exact⟨ah _,ah _,ah _,ah _,ah _,ah _,ah _,ah _,ah _,ah _,ah _,ah _,ah _,ah _,λ_ _ _ ⟨g,h1,h2,h3⟩ hb=>⟨g,h1,h2.ext hb,h3⟩,trivial⟩
   ·refine⟨rx [] [5] λx hG=>((cl hG bv.lt bv.cell):x.cell? (ae g5 0)=some v),rz [] [7],rx [1,35] [] λx hG=>((cl hG bX.lt (bX.cell 0)):x.cell? (ae Bx 0)=some (i6 ((yk:Nat):Int))),?_,rz [] [7],rx [4,38] [] λx hG=>((cl hG bX.lt (bX.cell 1)):x.cell? (ae Bx 1)=some (i6 ((yi:Nat):Int))),?_,rz [] [7],rx [7,41] [] λx hG=>((cl hG bX.lt (bX.cell 2)):x.cell? (ae Bx 2)=some (i6 ((yx:Nat):Int))),?_,rz [] [7],rx [10,44] [] λx hG=>((cl hG bX.lt (bX.cell 3)):x.cell? (ae Bx 3)=some (.int .u32 ((ys:Nat):Int))),rx [11,45] [] λx hG=>(IntWalk.i64_in _ om:IntKind.i64.wrap (ys:Int)=(ys:Int)),?_,?_,trivial⟩
    ·intro a x hG hd hs K hK;have HI:_=_:=hd 2 36 kj;clear hd hs;refine pj ?_;go_simp;exact(fI 1 _ yk om _ om).mono rj
    ·intro a x hG hd hs K hK;have HK:_=_:=hd 5 39 kj;clear hd hs;refine pj ?_;go_simp;exact(fI 1 _ yi om _ om).mono rj
    ·intro a x hG hd hs K hK;have HM:_=_:=hd 8 42 kj;clear hd hs;refine pj ?_;go_simp;exact(fI 2 _ yx om _ om).mono rj
    ·intro a x hG hd hs K hK;have HN:_=_:=hd 12 46 kj;clear hd hs;refine pj ?_;go_simp;exact(fI 4 _ ys om _ om).mono rj
    ·intro a x hG hd hs K hK;have F0:_=_:=hd 3 37 kj;have H2:=aA F0;have F1:_=_:=hd 6 40 kj;have H3:=aA F1;have F2:_=_:=hd 9 43 kj;have H4:=aA F2;have F3:_=_:=hd 13 47 kj;have H5:=aA F3;clear hd hs;refine pj ?_;go_simp;exact hK _ _ ⟨x.heap.size,rfl,ak.new x _ _,hG.size⟩ (hG.alloc hG.size _) (bh.alloc lh _)
   ·intro x hG;(iterate 14 rintro _ rfl);rintro E8 AR;simp only[ap];rw[show List.range' 15 (17-15)=[15,16]from rfl,wpOps_cons];rename_i v;obtain⟨gn,rfl,kn,HO⟩:=AR;have I:=J.kept (aI hG none) (by cases h:v.ownBlock with|none=>exact .inl rfl|some _=>exact .inr sj);have hr:=kn.fe 0 4 4 2 (by show 0+4*2<=8;decide) lh (by simp[maxLen]);rw[List.drop_zero,List.take_of_length_le (show(8:Nat)<=4*2 by decide)]at hr;obtain⟨v',wa,Ax,A0,A5,_⟩:=aE (P:=prog) (ty:=193) underlying193 iS rfl dc I hr (pO _) (by rw[aq];omega) om (Nat.le_trans U.size hG.size);refine pj ?_;refine c_ 34 48 193 rfl rfl rfl Ax ?_;rw[wpOps_cons];refine pj ?_;have bx:ak x g5 193 [v]:=ak.ext (cs:=[v]) bv hG;have ba:=bx.grown A5 (aW I bx dc);have cS:=ba.cell 0;have fS:=ba.frozen 0;obtain⟨A',c',rfl⟩:∃A' c',v'=.slice A' (5+4*pre.length+4) c':=by
     rcases A0.2 with⟨_,h0⟩|⟨g',By,cur,rfl,_⟩
     ·omega
     ·exact⟨_,_,rfl⟩
    have C4:∀(j:Nat) (o:Obj),v.ownBlock=some j->x.heap[j]? =some o->o.isCells=true:=λj o e ho=>by
     rcases I.2 with⟨rfl,_⟩|⟨g',By,cur,rfl,_,F4,_⟩
     ·cases e
     ·cases e;rw[F4]at ho;cases ho;rfl
    have B':=((hG.mono U.size).grown A5 (Nat.le_trans U.size hG.size) (λg e=>(I.lt g e).1)).setCell (p:=ae g5 0) BO (.slice A' (5+4*pre.length+4) c');have CC:=((KeepsOthers.of_grownBy (aI hG none) (λj o e=>by cases e)).trans (KeepsOthers.of_grownBy A5 C4)).trans (KeepsOthers.setCell wa (ae g5 0) (.slice A' (5+4*pre.length+4) c'));have Ab:=A0.kept (grownBy_setCell' wa g5 (.slice A' (5+4*pre.length+4) c')) (.inr (λe=>aW A0 ba dc e.symm));have Cd:=ba.aC 0 (.slice A' (5+4*pre.length+4) c');have Aq:bg (hS P++pS ((pre.map (·.1)).map (·.2)))++bg (eS ⟨yk,yi,yx,ys⟩)=bg (hS P++pS ((px.map (·.1)).map (·.2))):=(by rw[Bu,<-List.append_assoc,eZ _ (eS _)]);rw[Aq]at Ab;have F5:5+4*px.length=5+4*pre.length+4:=(by rw[F'];omega);clear C4 A5 A0 I J bx kn Aq Bu hr;refine Oper.wp_mono (K:=λ_ w'=>w'=wa.setCell (ae g5 0) (.slice A' (5+4*pre.length+4) c')) ?_ ?_
    ·rintro a9 _ rfl;show KeepsFrom W0.heap.size W _/\Below w.heap.size W _/\(∃v,Boxed _ g5 193 v/\World.ownsRow _ w.heap.size 200 2 v (5+4*px.length) (bg (hS P++pS ((px.map (·.1)).map (·.2))))/\True)/\Bw w _;rw[F5];exact⟨CC.from _,B',⟨_,Cd,Ab,trivial⟩,U.trans B'⟩
    ·clear CC B' Ab Cd;simp only[Act.put];go_simp
  case done=>rintro D ys W hD B0 ⟨⟨v,bv,J,_⟩,U⟩ hK;subst hT;have Co:bg (hS P++pS ((ys.map (·.1)).map (·.2)))=bg (hS P++pS l):=(by rw[B0,tw _ _ lh,List.take_length]);rw[Co]at J;have hlen:ys.length=l.length:=(by have:=congrArg List.length B0;rw[List.length_map,iG]at this;exact this);have F6:P.l=l:=(by rw[HP.a]);rw[F6]at HC HE HL;have hn: (hS P++pS l).length=5+4*l.length:=(by rw[List.length_append,Lf];rfl);have B1:ee W W.heap.size v (hS P++pS l):=ee.aG (base:=w.heap.size) (e:=200) (by rw[hn,<-hlen];exact J);have B2:=Pk.iM HC.a;have D0:Pk.packed (hS P++pS l)=Pk.bO (hS P++pS l):=(by unfold Pk.packed;rw[if_pos B2]);obtain⟨Av,cv,hv,_⟩:=B1.open_;generalize(hS P++pS l).length=m9 at hv;subst hv;have cS:=bv.cell;clear J Co B0;gi_wp2_with fail;refine⟨trivial,?_⟩;refine(callsIn_wide.2 (ic _ _ _ _ B1 lh om (Jb HC.a))).mono ?_;rintro e9 wp ⟨u,rfl,A4,B3⟩;rw[B2];rw[D0]at A4;have hs:Bs wp wp.heap.size u (Pk.bO (hS P++pS l)):=Bs.aG A4;have D3:D<W.heap.size:=(Array.getElem?_eq_some_iff.1 hK).1;have F7:wp.heap[D]? =some (.deferred (some [])):=(B3.block D D3).trans hK;have Ah:=U.trans (B3.mono U.size);clear A4 D0 B2 B1 cS;gi_wp2_with fail;refine⟨trivial,?_⟩;refine(callsIn_wide.2 (lJ _ _ _ _ (hH.ext Ah) hs lh (by rw[HL.a];omega))).mono ?_;rintro e9 ws ⟨u2,rfl,I,D5⟩;have B4:ws.heap[D]? =some (.deferred (some [])):=(D5.block D (Nat.lt_of_lt_of_le D3 B3.size)).trans F7;have F8:=Ah.trans (D5.mono Ah.size);have FZ:=ju.aG (l:=Crc.bR (Pk.bO (hS P++pS l))) (by rw[Crc.bH _ (by rw[HL.a];omega)];exact ownsRow_putObj I (.deferred none) B4 rfl) Ah.size;gi_wp2_with fail;refine⟨by simp,.inl ⟨_,_,rfl,run_takeDeferred B4,?_⟩⟩;exact⟨.tuple #[u2,i6 0],by simp[results,results281,go_sem],u2,rfl,by rw[<-HP.a,HE.a];exact FZ,F8.trans (belowK_b (w:=w) lh _ D _ _ (Nat.le_trans R.size hD) B4 rfl rfl)⟩
  case stop=>rintro D c9 pre W _ _ h _;exact h.elim
theorem wu (s n:Int) (vl:Value) (l:List Sm.En) (w:World) (hl:bP w w.heap.size vl l) (hg:Sm.Good ⟨s,n,true,l⟩) (hm:Sm.aV ⟨s,n,true,l⟩=true) (hH:a7 w):
 Calls prog 281 #[.agg #[i6 s,i6 n,.bool true,vl]] w (Jv (Sm.MV ⟨s,n,true,l⟩) w):=callsIn_wide.1 (sR s n vl l w _ rfl hl hg hm hH)
end SmW
end Go.Proofs.YtdhgejiacehpbaaGreatDoor
