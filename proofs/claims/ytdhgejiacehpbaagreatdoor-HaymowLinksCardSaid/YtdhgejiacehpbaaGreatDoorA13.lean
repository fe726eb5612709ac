import Derived.Test.YtdhgejiacehpbaaGreatDoorA12
set_option maxRecDepth 100000
set_option maxHeartbeats 16000000
set_option linter.all false
namespace Go.Proofs.YtdhgejiacehpbaaGreatDoor
open Go.Proofs.Tryz
namespace Ad
open Go.RowKit
attribute [local go_sem] Oper.semAt_some
abbrev Sg:={x:Nat//x<18}
def encS (x:Sg):Array Value:=#[i6 (x.1:Int),i6 ((x.1:Int)*16+1)]
theorem Ba (k:Nat):lC (k:Int)=0↔k<18:=by
 unfold lC;constructor
 ·intro h;split at h
  ·omega
  ·split at h<;>cases h
 ·intro h;rw[if_pos om]
def KB (n₀ b1 b2:Nat) (W W':World):Prop:=Below n₀ W W'/\∀b,b=b1\/b=b2->W'.heap[b]? =W.heap[b]?
theorem KB.refl (n₀ b1 b2:Nat) (W:World):KB n₀ b1 b2 W W:=⟨Below.refl _ _,λ_ _=>rfl⟩
theorem KB.trans {n₀ b1 b2:Nat} {A B C:World} (h:KB n₀ b1 b2 A B) (k:KB n₀ b1 b2 B C):KB n₀ b1 b2 A C:=⟨h.1.trans k.1,λb I=>(k.2 b I).trans (h.2 b I)⟩
theorem KB.of {n₀ b1 b2:Nat} {A B:World} (h:Bw A B) (hn:n₀<=A.heap.size) (h1:b1<A.heap.size) (h2:b2<A.heap.size):KB n₀ b1 b2 A B:=⟨h.mono hn,λb I=>h.block b (by rcases I with rfl|rfl<;>assumption)⟩
theorem KB.put {n₀ b1 b2:Nat} {w:World} (hn:n₀<=w.heap.size) (h1:b1<w.heap.size) (h2:b2<w.heap.size) (W:World) (l:Nat) (o o':Obj) (hl:w.heap.size<=l) (h:W.heap[l]? =some o) (ho:o.isCells=false) (hw:o.isWalk=false):KB n₀ b1 b2 W (W.putObj l o'):=⟨belowK_b hn W l o o' hl h ho hw,λb I=>(belowK_b (n₀:=b+1) (w:=w) (by rcases I with rfl|rfl<;>omega) W l o o' hl h ho hw).block b (Nat.lt_succ_self b)⟩
theorem KB.LI {n₀ b1 b2:Nat} {A B:World} {t:TypeId} {cs:List Value} (h:KB n₀ b1 b2 A B) (k:ak A b1 t cs):ak B b1 t cs:=(h.2 b1 (.inl rfl)).trans k
theorem KB.Nc {n₀ b1 b2:Nat} {A B:World} {t:TypeId} {cs:List Value} (h:KB n₀ b1 b2 A B) (k:ak A b2 t cs):ak B b2 t cs:=(h.2 b2 (.inr rfl)).trans k
theorem Dy (n:Nat) (hn:1<=n) (l Bg Bt n₀:Nat) (J Jx:List Sg->World->Prop)
 (hY:∀pre (x:Sg) W,J pre W->pre.length<18->YieldAt Fence.wide (n-1) prog l (encS x) W λe W'=>(e=.returned (.bool true)/\J (pre++[x]) W'/\KB n₀ Bg Bt W W')\/(e=.returned (.bool false)/\Jx (pre++[x]) W'))
 (W:World) (hn₀:n₀<=W.heap.size) (hJ:AbidesFrom W.heap.size J) (hBg:ak W Bg 60 [i6 20,i6 2,i6 1,i6 4]) (hBt:ak W Bt 3 [i6 0]) (h0:J [] W):
 CallsIn Fence.wide n prog 296 #[.func (.yield l) #[] #[],pt Bg 0,pt Bt 0] W λe W'=>(∃v,e=.returned v)/\
  ((∃ys:List Sg,ys.map (·.1)=List.range 18/\J ys W')\/(∃pre:List Sg,(∃k,k<=18/\pre.map (·.1)=List.range k)/\Jx pre W')):=by
 refine callsIn_of_wp func296 rfl trivial ?_ rfl;simp only[ntmps296,List.size_toArray,List.length_cons,List.length_nil,Nat.reduceAdd,Nat.reduceSub,Array.replicate_succ,Array.replicate_zero,List.push_toArray,List.append_toArray,List.nil_append,List.cons_append];obtain⟨x0,x1,x2,x3⟩:=four hBg;have o:=ja hBg;have A2:=ja hBt;clear hBg hBt;gi_wp2_with fail;refine⟨trivial,?_⟩;refine(callsIn_wide.2 (eM W)).mono ?_;rintro e w1 ⟨rfl,b1⟩;have J1:=ja (hJ _ _ _ none h0 (aI b1 none) (λr e=>by cases e));have B1:=ja (KB.of b1 hn₀ o.a.lt A2.a.lt);clear x0 x1 x2 x3 h0 b1;gi_wp2;gi_loopw [4,5,6,9] (λ_ _ _ u wr=>∃(k:Nat) (ys:List Sg),k<=24/\u=i6 k/\ys.map (·.1)=List.range (min k 18)/\J ys wr/\KB n₀ Bg Bt W wr) (λ_ _ _ u _=>24-(intOf u).toNat);case atStart=>exact⟨0,[],Nat.zero_le _,rfl,rfl,J1.a,B1.a⟩
 case round=>
  obtain⟨k,ys,hk,rfl,I,A3,A4⟩:=hrel;by_cases Aq:k<24
  ·obtain⟨x0,x1,x2,x3⟩:=four (A4.LI o.a);have A7:=ja I;have Ab:=ja A3;have A':=ja A4;clear I A3 A4;gi_wp2_with fail;refine⟨trivial,?_⟩;refine(callsIn_wide.2 (mv wr (k:Int) om om)).mono ?_;rintro e w2 ⟨rfl,b2⟩;have Ad:=ja (hJ _ _ _ none Ab.a (aI b2 none) (λr e=>by cases e));have A0:=ja (A'.a.trans (KB.of b2 (Nat.le_trans hn₀ A'.a.1.size) (A'.a.LI o.a).lt (A'.a.Nc A2.a).lt));have A8:=ja (A0.a.LI o.a);have A9:=ja (A0.a.Nc A2.a);clear x0 x1 x2 x3 b2;gi_upto_region 4 with fail;have A5:Bw w2 w2.drew:=bh.drew;refine wpIn_wide.2 ?_;obtain⟨bb,R⟩:=ex (lC (k:Int) != 0);have Ae:=ja (λ(x:World)=>jI x ((k:Int)*16+1) k om om om);have AI:=ja R;clear R;refine wp_region_list 9 [(ez (i6 0)),(ez (.bool false)),(ez (.bool false)),(ez dP),(ez (i6 ((k:Int)*16+1))),(ez (i6 (lC (k:Int)))),(ez (i6 0)),(ez (.bool bb)),(ez (.bool bb))]
    (λq=>Bw w2 q) kj rfl kj ?_ ?_ ?_ ?_
   ·exact A5
   ·exact sv
   ·refine⟨rz [] [6],rz [0,18] [],rz [1,19] [],?_,Dh [2,20] [5],?_,Gq [2,20] [2] λx hG=>(A9.a.ext hG).cell 0,Gq [2,20,5,23,6,24] [] λx hG=>AI.a,rz [2,20,7,25] [],trivial⟩
    ·intro a x hG hd hs K hK;have h1:_=_:=hs 1 kj;have A6:_=_:=hd 2 20 kj;clear hd hs;refine kG rfl rfl rfl A6 ?_;obtain⟨x0,x1,x2,x3⟩:=four (A8.a.ext hG);go_simp;exact hK _ _ rfl hG bh
    ·intro a x hG hd hs K hK;have Ar:_=_:=hd 3 21 kj;have As:_=_:=hd 4 22 kj;have A6:_=_:=hd 2 20 kj;clear hd hs;refine kG rfl rfl rfl A6 ?_;go_simp;exact(Ae.a x).mono rj
   ·intro x hG;(iterate 9 rintro _ rfl);simp only[ap];(try simp only[Exit.then]);have U:=hJ _ _ _ none Ad.a (aI hG none) (λr e=>by cases e);have A1:=A0.a.trans (KB.of hG (Nat.le_trans hn₀ A0.a.1.size) A8.a.lt A9.a.lt);have R:=AI.a;cases bb with
    |true=>
     have j:¬k<18:=λh=>(by rw[(Ba k).2 h]at R;cases R);have HQ:=jb U A1;clear U A1 hG A5 R;gi_wp2;go_roundw;case rel=>exact⟨k+1,ys,by omega,by go_num,by rw[A7.a,Nat.min_eq_right om,Nat.min_eq_right om],HQ.a,HQ.b⟩
     case measure=>exact ms
    |false=>
     have j:k<18:=(Ba k).1 (by simpa using R);have I:=A7.a;rw[Nat.min_eq_left om]at I;obtain⟨fn,tmps,assign,body,hy,hR⟩:=hY ys ⟨k,j⟩ x U (by have:=congrArg List.length I;rw[List.length_map,List.length_range]at this;omega);unfold encS at hy;dsimp only at hy;have AR:=ja (show(ys++[(⟨k,j⟩:Sg)]).map (·.1)=List.range (k+1) by rw[List.map_append,I,List.range_succ];rfl);have HR:=ja hR;have Ah:=ja A1;clear I hR U A1 hG A5 R;gi_wp2;refine HR.a.mono ?_;rintro e W3 (⟨rfl,U,Ao⟩|⟨rfl,Aa⟩)
     ·gi_wp2;go_roundw;case rel=>exact⟨k+1,_,by omega,by go_num,by rw[Nat.min_eq_left om];exact AR.a,U,Ah.a.trans Ao⟩
      case measure=>exact ms
     ·gi_wp2;refine bodyPost_ret (results_none rfl _ _ _) rfl ?_;exact⟨⟨_,rfl⟩,.inr ⟨_,⟨k+1,by omega,AR.a⟩,Aa⟩⟩
  ·obtain rfl:k=24:=(by omega);gi_wp2;go_end0;exact⟨⟨_,rfl⟩,.inl ⟨_,I,A3⟩⟩
theorem Fm (w:World):
 Calls prog 259 #[dP,i6 0] w λe w'=>e=.returned (.func (.func 296) #[] #[pt w.heap.size 0,pt (w.heap.size+1) 0])/\w'=(w.alloc (.cells #[i6 20,i6 2,i6 1,i6 4] 60)).alloc (.cells #[i6 0] 3):=by
 unfold dP;go_enter func259,ntmps259;go_wp2;go_ret;exact⟨rfl,rfl⟩
theorem zn (n:Nat) (hn:1<=n) (Bg Bt n₀:Nat) (w:World) (hn₀:n₀<=w.heap.size) (hBg:ak w Bg 60 [i6 20,i6 2,i6 1,i6 4]) (hBt:ak w Bt 3 [i6 0]):
 SeqStopsK Fence.wide n prog 296 #[pt Bg 0,pt Bt 0] encS (KB n₀ Bg Bt) (λys=>ys.map (·.1)=List.range 18) (λpre=>∃k,k<=18/\pre.map (·.1)=List.range k) 18 w:=λl J R W I U _ j o=>
 Dy n hn l Bg Bt n₀ J R j W (Nat.le_trans hn₀ I.size) U (hBg.ext I) (hBt.ext I) o
end Ad
namespace Ad
open Go.RowKit
open Co (ints dZ az)
attribute [local go_sem] Oper.semAt_some
def Uses (w:World) (v:Value) (us:List Value):Prop:=bw w w.heap.size 2 v 24 us/\∀s,1<=s->s<18->us[s*2]? =some (i6 0)
theorem yO (A:Option Addr) (c:Nat) (w:World):Calls prog 257 #[dP,.slice A 24 c] w λe w'=>e=.returned (.bool true)/\Bw w w':=by
 unfold dP;go_enter func257,ntmps257;go_upto_region 1 with fail
 obtain⟨k0,J⟩:=box w;generalize w.alloc (.cells #[i6 20,i6 2,i6 1,i6 4] 60)=w0 at*;obtain⟨g,R⟩:=ex w.heap.size;rw[R]at k0|-;obtain⟨x0,x1,j,o⟩:=four k0;have K:=ja k0;have B:=ja J;clear k0 J R;go_wp2_with fail
 refine(cP w0).mono ?_;rintro e w1 ⟨rfl,I⟩;obtain⟨y0,y1,y2,y3⟩:=four (K.a.ext I);have U:=ja (B.a.trans (I.mono B.a.size));clear x0 x1 j o I;go_wp2_with fail
 refine(eM w1).mono ?_;rintro e w2 ⟨rfl,b2⟩;go_wp2;go_ret;exact⟨rfl,U.a.trans (b2.mono U.a.size)⟩
def gA:List Int:=(List.range 17).map λk:Nat=>(k:Int)+1
def yD (pre:List Sg):List Int:=((pre.map (·.1)).filter λk=>decide (0<k)).map λk:Nat=>(k:Int)
theorem Hz {ys:List Sg} (h:ys.map (·.1)=List.range 18):yD ys=gA:=by unfold yD;rw[h];rfl
theorem FR (pre:List Sg) (h: (0:Nat)<18):yD (pre++[⟨0,h⟩])=yD pre:=by unfold yD;rw[List.map_append,List.filter_append];simp
theorem E3 (pre:List Sg) (x:Nat) (h:x<18) (h0:0<x):yD (pre++[⟨x,h⟩])=yD pre++[(x:Int)]:=by unfold yD;rw[List.map_append,List.filter_append];simp[h0]
theorem HJ (pre:List Sg): (yD pre).length<=pre.length:=by unfold yD;rw[List.length_map];exact Nat.le_trans (List.length_filter_le _ _) (by rw[List.length_map];exact Nat.le_refl _)
structure Bx (base g4 g5 g7 g11 g15 m:Nat) (uv:Value) (W:World):Prop where
 b4:ak W g4 60 [i6 20,i6 2,i6 1,i6 4]
 b5:ak W g5 108 [uv]
 b7:ak W g7 3 [i6 0]
 kT:ak W g11 101 [.map (some m)]
 Mk:ak W g15 50 [.slice none 0 0]
 mp:ay W prog 3 m [(0,.agg #[])]
 lt:g4<base/\g5<base/\g7<base/\g11<base/\g15<base/\m<base
 sz:base<=W.heap.size
section
variable {base g4 g5 g7 g11 g15 m:Nat} {uv:Value} {W W':World}
theorem Bx.grown (h:Bx base g4 g5 g7 g11 g15 m uv W) {row:Option Nat} (hg:W.grownBy W' row) (hr:∀j,row=some j->base<=j):Bx base g4 g5 g7 g11 g15 m uv W':=by
 obtain⟨R,l5,U,I,J,lm⟩:=h.lt;have ne:∀b,b<base->some b≠row:=λb o e=>by have:=hr b e.symm;omega
 exact⟨h.b4.grown hg (ne _ R),h.b5.grown hg (ne _ l5),h.b7.grown hg (ne _ U),h.kT.grown hg (ne _ I),h.Mk.grown hg (ne _ J),h.mp.kept hg (ne _ lm),h.lt,Nat.le_trans h.sz hg.size⟩
theorem Bx.set (h:Bx base g4 g5 g7 g11 g15 m uv W) {g:Nat} (hg:g4≠g/\g5≠g/\g7≠g/\g11≠g/\g15≠g/\m≠g) (v:Value):Bx base g4 g5 g7 g11 g15 m uv (W.setCell (ae g 0) v):=⟨h.b4.cf (p:=ae g 0) hg.1 v,h.b5.cf (p:=ae g 0) hg.2.1 v,h.b7.cf (p:=ae g 0) hg.2.2.1 v,h.kT.cf (p:=ae g 0) hg.2.2.2.1 v,h.Mk.cf (p:=ae g 0) hg.2.2.2.2.1 v,h.mp.setCell (a:=ae g 0) hg.2.2.2.2.2 v,h.lt,by rw[World.size_setCell];exact h.sz⟩
end
theorem cJ {w:World} {g:Nat} {t:TypeId} {cs:List Value} {base:Nat} {e:TypeId} {sz n:Nat} {v:Value} {xs:List Value} (h:w.ownsRow base e sz v n xs) (hg:ak w g t cs) (hne:e≠t) (i:Nat) (u:Value): (w.setCell (ae g i) u).ownsRow base e sz v n xs:=h.kept (fZ [u] w i:w.grownBy (w.setCell (ae g i) u) (some g)) (.inr (λe=>aW h hg hne e.symm))
theorem vF (l:List Int) (x:Int):ints (l++[x])=ints l++[i6 x]:=by unfold ints;rw[List.map_append];rfl
theorem nZ {P:Program} {ops:Array Oper} {rest:List Oper} {o:Oper} {a:Act} {Q:Exit->Act->World->Prop} {w w':World} (hgd:o.guard=none) (s x:Operand) (t tx:TypeId)
 (ho:o.op=.call {callee:=.builtin .append,args:=#[s,x],argTypes:=#[t,tx]}) {v vs u:Value} (hs:a.eval s=v) (hx:a.eval x=vs)
 (hrun: (Builtin.append_ #[t,tx] o.type #[v,vs]).run P w=.ok u w') (h:wpList P ops Q rest (a.put o.dst u) w'):Hid (wpList P ops Q (o::rest) a w):=by
 show wpList P ops Q (o::rest) a w;refine wpList_plain hgd λK I=>?_;unfold Oper.wp;simp[execOp,ho,resolve,invoke,builtin,hs,hx,hrun,Result.andThen];exact I _ _ h
theorem dn {w:World} {b base:Nat} {e:TypeId} {sz n:Nat} {v:Value} {xs:List Value} (h:w.ownsRow base e sz v n xs) (hb:b<=base):w.ownsRow b e sz v n xs:=⟨h.1,h.2.imp_right λ⟨g,cap,cur,I,J,R⟩=>⟨g,cap,cur,I,Nat.le_trans hb J,R⟩⟩
theorem KB.wide {n₀ b1 b2 N:Nat} {A B:World} (h:Below N A B) (hn:n₀<=N) (h1:b1<N) (h2:b2<N):KB n₀ b1 b2 A B:=⟨h.mono hn,λb I=>h.block b (by rcases I with rfl|rfl<;>assumption)⟩
theorem KB.setCell {n₀ b1 b2:Nat} (W:World) (p:Addr) (v:Value) (hn:n₀<=p.block) (h1:b1≠p.block) (h2:b2≠p.block):KB n₀ b1 b2 W (W.setCell p v):=⟨bh.setCell hn v,λb I=>Below.heap_setCell W p v b (by rcases I with rfl|rfl<;>assumption)⟩
theorem ff {β:Type} (B base g:Nat) (t e:TypeId) (sz:Nat) (k:β->Nat) (f:β->List Value) (cs:β->Value->List Value):OwnFrom B (λs W=>∃v,ak W g t (cs s v)/\W.ownsRow base e sz v (k s) (f s)):=by
 rintro s A W row ⟨v,j,I⟩ hg hr;refine⟨v,j.grown hg (λe=>?_),I.kept hg ?_⟩
 ·obtain⟨_,o,I,R⟩:=hr g e.symm;have h1:A.heap[g]? =some (.cells (cs s v).toArray t (0,0)):=j;rw[h1]at I;cases I;cases R
 ·rcases I.2 with⟨rfl,_⟩|⟨g',cap,cur,rfl,_,U,_⟩
  ·exact .inl rfl
  ·refine .inr λer=>?_;obtain⟨_,o,J,R⟩:=hr g' er.symm;rw[U]at J;cases J;cases R
theorem xh {β:Type} {base g4 g5 g7 g11 g15 m:Nat} {uv:Value}:OwnFrom (β:=β) base (λ_ W=>Bx base g4 g5 g7 g11 g15 m uv W):=λ_ _ _ row hs I J=>hs.grown I λj e=>(J j e).1
def Gb (w:World) (e:Ending) (w':World):Prop:=∃u,e=.returned u/\w'.ownsRow w.heap.size 3 1 u 17 (ints gA)/\Bw w w'
theorem IM (uv bv:Value) (us:List Value) (w:World) (hu:Uses w uv us) (hb:Is .i64 w w.heap.size bv [0]):
 CallsIn Fence.wide 9 prog 220 #[dP,uv,bv,i6 0] w (Gb w):=by
 obtain⟨A,c,rfl,hc,D5,Dv,B6⟩:=hu.1;obtain⟨bu,ou,rfl,E1,hE⟩:=B6 dc;obtain⟨A2,c2,rfl,FZ,B7,As⟩:=hb.open_;obtain⟨bb,ob,rfl,E4,B8⟩:=As 0 dc;have HE:=ja hE;have HU:=ja hu.2;have G1:=@run_makeMap prog;have E5:=ja B8;clear hE hu hb B8 B6 As Dv D5 B7;unfold dP;refine callsIn_of_wp_marks func220 rfl trivial ?_ rfl;simp only[ntmps220,List.size_toArray,List.length_cons,List.length_nil,Nat.reduceAdd,Nat.reduceSub,Array.replicate_succ,Array.replicate_zero,List.push_toArray,List.append_toArray,List.nil_append,List.cons_append];gi_upto_region 1 with fail;obtain⟨W0,A0⟩:=ex (((w.alloc (.cells #[i6 20,i6 2,i6 1,i6 4] 60)).alloc (.cells #[.slice (some ⟨bu,ou,none⟩) 24 c] 108)).alloc (.cells #[i6 0] 3));have k4:ak W0 w.heap.size 60 [i6 20,i6 2,i6 1,i6 4]:=by rw[<-A0];exact((ak.new w _ _).alloc _).alloc _
 have k5:ak W0 (w.heap.size+1) 108 [.slice (some ⟨bu,ou,none⟩) 24 c]:=by rw[<-A0];have:=(ak.new (w.alloc (.cells #[i6 20,i6 2,i6 1,i6 4] 60)) 108 #[.slice (some ⟨bu,ou,none⟩) 24 c]).alloc (.cells #[i6 0] 3);rwa [World.size_alloc]at this
 have k7:ak W0 (w.heap.size+2) 3 [i6 0]:=by rw[<-A0];have:=ak.new ((w.alloc (.cells #[i6 20,i6 2,i6 1,i6 4] 60)).alloc (.cells #[.slice (some ⟨bu,ou,none⟩) 24 c] 108)) 3 #[i6 0];rwa [World.size_alloc,World.size_alloc]at this
 have b0:Below w.heap.size w W0:=by rw[<-A0];exact((bh.alloc lh _).alloc sj _).alloc (by simp;omega) _
 rw[A0];clear A0;obtain⟨g4,B9⟩:=ex w.heap.size;rw[B9]at k4 k5 k7 b0|-;obtain⟨g5,BB⟩:=ex (g4+1);obtain⟨g7,BO⟩:=ex (g5+1);rw[show g4+2=g7 by omega]at k7;rw[BB]at k5|-;rw[BO];have HG:=ja (show g4=w.heap.size/\g5=g4+1/\g7=g4+2 by omega);have U:=ja k4;have K5:=ja k5;have K7:=ja k7;have B0:=ja b0;obtain⟨x0,x1,x2,x3⟩:=four k4;have x5:=k5.cell 0;clear B9 BB BO k4 k5 k7 b0;gi_wp2_with fail;refine⟨trivial,?_⟩;refine(callsIn_wide.2 (yO _ _ W0)).mono ?_;rintro e W1 ⟨rfl,b1⟩;have B1:=ja (B0.a.trans (b1.mono (oi B0.a.size HG.a.1)));have U:=ja (U.a.ext b1);have K5:=ja (K5.a.ext b1);have K7:=ja (K7.a.ext b1);clear x0 x1 x2 x3 x5 b1 B0;obtain⟨x0,x1,x2,x3⟩:=four U.a;have x7:=K7.a.cell 0;gi_wp2_with fail;refine⟨trivial,?_⟩;refine(callsIn_wide.2 (mv W1 0 dc dc)).mono ?_;rintro e W2 ⟨rfl,b2⟩;have B2:=ja (B1.a.trans (b2.mono (oi B1.a.size HG.a.1)));have U:=ja (U.a.ext b2);have K5:=ja (K5.a.ext b2);have K7:=ja (K7.a.ext b2);clear x0 x1 x2 x3 x7 b2 B1;obtain⟨x0,x1,x2,x3⟩:=four U.a;gi_wp2_with fail;refine⟨trivial,?_⟩;refine(callsIn_wide.2 (jI W2 1 0 dc dc dc)).mono ?_;rintro e W3 ⟨rfl,b3⟩;have B3:=ja (B2.a.trans (b3.mono (oi B2.a.size HG.a.1)));have U:=ja (U.a.ext b3);have K5:=ja (K5.a.ext b3);have K7:=ja (K7.a.ext b3);clear x0 x1 x2 x3 b3 B2;rw[show lC 0=0 from rfl];gi_upto_region 7 with fail;obtain⟨W4,AR⟩:=ex ((W3.alloc (.map #[] 0)).alloc (.cells #[.map (some W3.heap.size)] 101));have m4:ay W4 prog 3 W3.heap.size []:=by rw[<-AR];exact(ay.made W3 _ _).alloc _
 have jr:ak W4 (W3.heap.size+1) 101 [.map (some W3.heap.size)]:=by rw[<-AR];have:=ak.new (W3.alloc (.map #[] 0)) 101 #[.map (some W3.heap.size)];rwa [World.size_alloc]at this
 have b4:Below W3.heap.size W3 W4:=by rw[<-AR];exact(bh.alloc lh _).alloc sj _
 rw[AR];obtain⟨m,hm⟩:=ex W3.heap.size;rw[hm]at m4 jr|-;obtain⟨g11,Au⟩:=ex (m+1);rw[Au]at jr|-;have A1:=ja (show g7<m/\g11=m+1/\w.heap.size<=m/\W3.heap.size=m by have:=K7.a.lt;have:=B3.a.size;have:=HG.a.1;omega);obtain⟨W5,G2,m5,t5⟩:=ay.store m4 az underlying101 (by rw[aq];decide) 0 dc (.agg #[]);have A3:Below w.heap.size w W4:=(HG.a.1▸B3.a).trans (b4.mono (oa A1.a));have x8:W4.cell? (ae bb ob)=some (i6 0):=cl A3 E4 E5.a;have Ax:=jr.cell 0;have BQ:some g11≠some m:=λe=>by have:=Option.some.inj e;have:=A1.a;omega
 have ne:∀b,b<m->some b≠some m:=λb hb e=>by have:=Option.some.inj e;omega
 have Ao:=ja (jr.grown t5.grown BQ);have U:=ja ((U.a.ext b4).grown t5.grown (ne _ (oi HG.a A1.a)));have K5:=ja ((K5.a.ext b4).grown t5.grown (ne _ (oi HG.a A1.a)));have K7:=ja ((K7.a.ext b4).grown t5.grown (ne _ (oa A1.a)));have M5:=ja m5;have B':=ja (A3.grown t5.grown A3.size (λj e=>by cases e;exact A1.a.2.2.1));clear AR b4 hm Au m4 jr m5 t5 A3 BQ ne B3;gi_wp2;gi_loopw [13,40] (λ_ u wr=>(u=i6 0/\W4=wr)\/(u=i6 1/\W5=wr)) (λ_ u _=>2-(intOf u).toNat);case atStart=>exact .inl ⟨rfl,rfl⟩
 case round=>
  rcases hrel with⟨rfl,rfl⟩|⟨rfl,rfl⟩
  ·gi_wp2;go_roundw;case rel=>exact .inr ⟨rfl,trivial⟩
   case measure=>simp[intOf]
  ·clear x8 Ax;obtain⟨x0,x1,x2,x3⟩:=four U.a;have A4:=(ak.new W5 50 #[.slice none 0 0]).alloc (.cells #[.slice none 0 0] 50);have Aq:=ak.new (W5.alloc (.cells #[.slice none 0 0] 50)) 50 #[.slice none 0 0];have b6:=((Below.refl W5.heap.size W5).alloc lh (.cells #[.slice none 0 0] 50)).alloc sj (.cells #[.slice none 0 0] 50);have s6: ((W5.alloc (.cells #[.slice none 0 0] 50)).alloc (.cells #[.slice none 0 0] 50)).heap.size=W5.heap.size+2:=(by simp);rw[World.size_alloc]at Aq;gi_upto_region 13 with fail;generalize(W5.alloc (.cells #[.slice none 0 0] 50)).alloc (.cells #[.slice none 0 0] 50)=W6 at*;obtain⟨g14,Av⟩:=ex W5.heap.size;rw[Av]at A4 Aq s6|-;have l4:=U.a.lt;have l5:=K5.a.lt;have l7:=K7.a.lt;have E6:=Ao.a.lt;have lm:=M5.a.lt;have HL:=ja (show g4<g14/\g5<g14/\g7<g14/\g11<g14/\m<g14/\w.heap.size<=g14/\W6.heap.size=g14+2 by have:=B'.a.size;omega);have U:=ja (U.a.ext b6);have K5:=ja (K5.a.ext b6);have K7:=ja (K7.a.ext b6);have Ao:=ja (Ao.a.ext b6);have E7:=ja A4;have E8:=ja Aq;have M6:=ja (M5.a.ext b6);have Bg:=ja (B'.a.trans (b6.mono B'.a.size));clear x0 x1 x2 x3 A4 Aq b6 s6 Av l4 l5 l7 E6 lm;obtain⟨x0,x1,x2,x3⟩:=four U.a;gi_wp2_with fail;refine⟨trivial,?_⟩;refine(callsIn_wide.2 (Fm W6)).mono ?_;rintro e W7 ⟨rfl,Aa⟩;have Bt:ak W7 W6.heap.size 60 [i6 20,i6 2,i6 1,i6 4]:=(by rw[Aa];exact(ak.new W6 _ _).alloc _);have Bu:ak W7 (W6.heap.size+1) 3 [i6 0]:=(by rw[Aa];have:=ak.new (W6.alloc (.cells #[i6 20,i6 2,i6 1,i6 4] 60)) 3 #[i6 0];rwa [World.size_alloc]at this);have b7:Below W6.heap.size W6 W7:=(by rw[Aa];exact(bh.alloc lh _).alloc sj _);have s7:W7.heap.size=W6.heap.size+2:=(by rw[Aa];simp);have h0:Bx W7.heap.size g4 g5 g7 g11 (g14+1) m (.slice (some ⟨bu,ou,none⟩) 24 c) W7:=⟨U.a.ext b7,K5.a.ext b7,K7.a.ext b7,Ao.a.ext b7,E8.a.ext b7,M6.a.ext b7,by have:=HL.a;omega,Nat.le_refl _⟩;have A4:=E7.a.ext b7;have J:=Bg.a.trans (b7.mono Bg.a.size);clear Aa x0 x1 x2 x3 b7;gi_wp2;generalize hT:Act.mk _ _=a0;have By:=zn 8 dc W6.heap.size (W6.heap.size+1) w.heap.size W7 J.size Bt Bu;have E9:g14<W6.heap.size/\w.heap.size<=W6.heap.size/\g14+2=W6.heap.size:=(by have:=HL.a;omega);have EC:=ja E9;refine wpIn_rangeFunc_ownH rfl dc (gf:=296) (lb:=#[pt W6.heap.size 0,pt (W6.heap.size+1) 0]) (by subst hT;rfl) trivial (enters_of func296 kj rfl)
    By KB.trans (KB.put J.size om om) bh (λ_=>rfl)
    (λpre W=>(Bx W7.heap.size g4 g5 g7 g11 (g14+1) m (.slice (some ⟨bu,ou,none⟩) 24 c) W/\(∃v,ak W g14 50 [v]/\W.ownsRow W7.heap.size 3 1 v (yD pre).length (ints (yD pre))))/\Below w.heap.size w W)
    (λ_ _ _=>False)
    (OwnFrom.and (OwnFrom.and xh (ff _ _ _ _ _ _ (λpre:List Sg=>(yD pre).length) (λpre=>ints (yD pre)) (λ_ v=>[v]))) (ownFrom_below lh J.size))
    (λ_=>ownFrom_pure _ _)
    ⟨⟨h0,_,A4,World.ownsRow_nil _ _ _ _⟩,J⟩
    (λx a' _=>a'={tmps:=((a0.tmps.setIfInBounds 50 (i6 (x.1:Int))).setIfInBounds 51 (i6 ((x.1:Int)*16+1))).setIfInBounds 16 (i6 (x.1:Int)),defers:=[]})
    (λx a'=>ownFrom_pure _ _)
    ?assign ?body ?done ?stop
   case assign=>rintro l9 pre x W K hI hK;subst hT;unfold encS at*;dsimp only at*;gi_wp2;exact hK _ _ (KeepsFrom.refl _ _) (KB.refl _ _ _ _) hI rfl
   case body=>
    rintro l9 pre ⟨x,C4⟩ a' W G5 ⟨r9,EK⟩ ⟨⟨A5,v,bv,I⟩,Ab⟩ rfl G7;subst hT;dsimp only;simp only[List.setIfInBounds_toArray,List.set_cons_succ,List.set_cons_zero];obtain⟨A9,c9,rfl⟩:=dZ I;have Ax:=A5.kT.cell 0;have o:=ja A5;have CC:=ja bv;have HO:=ja I;have A6:=ja Ab;have ol:=HJ pre;clear A5 bv I Ab EK A4 Bt Bu h0 J By;by_cases h0:x=0
    ·subst h0;have A7:=o.a.mp.gw az underlying101 (Co.oI W) 0 dc;rw[show bK [((0:Int),(Value.agg #[]))] 0=some (.agg #[])from rfl]at A7;simp only[Option.getD_some,Option.isSome_some]at A7;have A8:=(Below.refl W.heap.size W).alloc lh (.cells #[] 208);gi_wp2;have hg:=World.grownBy_alloc W (.cells #[] 208) none;refine⟨(KeepsOthers.alloc _ _).from _,KB.of A8 A6.a.size (oa o.a.sz) (oa o.a.sz),⟨o.a.grown hg (λj e=>by cases e),?_⟩,A6.a.trans (A8.mono A6.a.size)⟩;rw[FR];exact⟨_,CC.a.alloc _,HO.a.alloc _⟩
    ·have A7:=o.a.mp.gw az underlying101 (Co.oI W) (x:Int) (Co.cC _ om om);rw[show bK [((0:Int),(Value.agg #[]))] (x:Int)=none by rw[bp,if_neg om];rfl]at A7;simp only[Option.getD_none,Option.isSome_none]at A7;have A8:=(Below.refl W.heap.size W).alloc lh (.cells #[] 208);gi_upto_region 16 with fail;have hg:=World.grownBy_alloc W (.cells #[] 208) none;have A':=ja (o.a.grown hg (λj e=>by cases e));have Ad:=ja (CC.a.alloc (.cells #[] 208));have EX:=ja (HO.a.alloc (.cells #[] 208));have F':=ja (KeepsOthers.alloc W (.cells #[] 208));have F0:=ja A8;have Cd:W7.heap.size<=(W.alloc (.cells #[] 208)).heap.size:=A'.a.sz;generalize W.alloc (.cells #[] 208)=W1 at*;have F1:=ja (A6.a.trans (A8.mono A6.a.size));have y5:=A'.a.b5.cell 0;have y7:=A'.a.b7.cell 0;have F2:=Ad.a.cell 0;have yu:W1.cell? (ae bu (ou+x*2))=some (i6 0):=cl F1.a E1 (HE.a _ _ (HU.a x om C4));have F8: (x:Int)<24:=(by omega);have AI:=EX.a;clear A8 hg A7 Ax;gi_upto_region 19 with fail;refine j9 (by rintro⟨_,_,h⟩;exact h) kj ?_;(go_wp2_with(at_builtin;refine bT ?_));refine aH rfl _ _ rfl rfl rfl sj underlying50 Sq.cI rfl dc AI rfl (by simp[Value.oneCell']) (by rw[aq];omega) om Cd ?_;rintro v2 W2 Ae R;have Ar:=Ad.a.grown R (aW AI Ad.a dc);have F3:=A'.a.grown R (λj e=>(AI.lt j e).1);have D0:=F'.a.trans (KeepsOthers.of_grownBy R (mC AI));have D3:=(F0.a.mono o.a.sz).grown R Cd (λj e=>(AI.lt j e).1);obtain⟨A2,c2,rfl⟩:=dZ Ae;have cb:=Ar.cell 0;have fb:=Ar.frozen 0;have hl:=HL.a;clear R AI y5 y7 F2 yu;refine(λ(h:∀a:Act,a.tmps.getD 14 undef=pt g14 0->a.tmps.getD 77 undef=.slice A2 ((yD pre).length+1) c2->wpList _ _ _ _ a W2)=>h _ rfl rfl) ?_;intro a G8 H0;unfold wpList;go_simp;refine .inl ?_;unfold wpList;simp only[Exit.inBlock,Exit.then];refine⟨(D0.trans (KeepsOthers.setCell W2 (ae g14 0) _)).from _,(KB.wide D3 om om om).trans (KB.setCell W2 _ _ (by show _<=g14;omega) (by show _≠g14;omega) (by show _≠g14;omega)),⟨F3.set om _,_,Ar.aC 0 _,?_⟩,A6.a.trans ((D3.mono (oa EC.a)).setCell (by show _<=g14;omega) _)⟩;rw[E3 _ _ _ om,List.length_append,List.length_singleton,vF];exact cJ Ae Ar dc 0 _
   case done=>rintro D ys W hD F4 ⟨⟨A5,v,bv,I⟩,Ab⟩ hK;subst hT;rw[Hz F4]at I;have H2:=bv.cell 0;have H3:=A5.Mk.cell 0;have A3:W7.heap.size<=W.heap.size:=A5.sz;obtain⟨v',wa,B4,Ah,Aw,_⟩:=aE (P:=prog) (ty:=50) underlying50 Sq.cI rfl dc I (bw.fp W 0 1) sj (by rw[aq];decide) dc A3;gi_upto_region 20 with fail;refine wpIn_wide.2 ?_;(go_wp2_with(at_builtin;refine bT ?_));refine nZ rfl _ _ _ _ rfl rfl rfl B4 ?_;refine(λ(h:∀a:Act,a.tmps.getD 80 undef=v'->a.defers=[{target:=Target.collected D,args:=#[]}]->a.tmps.size=81->wpList _ _ _ _ a wa)=>h _ rfl rfl rfl) ?_;intro a H4 H5 F5;unfold wpList;go_simp;refine .inl ?_;unfold wpList;simp only[Exit.then];refine ‹∀(a:Act) (w_1:World),Code.wpIn _ _ _ Code.ret _ a w_1->_› _ _ ?_;refine wpIn_ret ?_;have F6:wa.heap[D]? =W.heap[D]? :=(by refine Aw.block D (Array.getElem?_eq_some_iff.1 hK).1 λe=>?_;cases mC I D _ e.symm hK);have B5:=F6.trans hK;refine⟨by simp,.inl ⟨_,_,rfl,run_takeDeferred B5,?_⟩⟩;have F7:Below w.heap.size w wa:=Ab.grown Aw Ab.size (λj e=>Nat.le_trans J.size (I.lt j e).1);rw[List.append_nil]at Ah;refine⟨v',?_,v',rfl,dn (ownsRow_putObj Ah (.deferred none) B5 rfl) J.size,F7.trans (belowK_b (w:=w) lh _ D _ _ (Nat.le_trans J.size hD) B5 rfl rfl)⟩;simp[results,results220,F5]
   case stop=>exactλ_ _ _ _ _ _ h _=>h.elim
theorem Ep (uv bv:Value) (us:List Value) (w:World) (hu:Uses w uv us) (hb:Is .i64 w w.heap.size bv [0]):
 Calls prog 220 #[dP,uv,bv,i6 0] w (Gb w):=callsIn_wide.1 (IM uv bv us w hu hb)
end Ad
namespace Co
open Go.RowKit
open Ad (dP zl db)
structure Lays (c:C):Prop where
 g1:c.k.g1=20
 g2:c.k.g2=2
 g3:c.k.g3=1
 g4:c.k.g4=4
 Nt:1<=c.k.at_
 NB:c.k.at_<=7
 chain:c.k.chain=.slice none 0 0
 tB:c.k.nQ.length=48
 aU:∀s,1<=s->s<18->c.k.nQ[s*2]? =some (i6 0)
section
variable {w:World} {c:C} {fs:List Fi}
theorem rB (h:bD w c fs) (hL:Lays c):w.cell? (ae c.g 1)=some (i6 20)/\w.cell? (ae c.g 2)=some (i6 2)/\w.cell? (ae c.g 3)=some (i6 1)/\w.cell? (ae c.g 4)=some (i6 4):=⟨(h.cell 1).trans (by rw[<-hL.g1];rfl),(h.cell 2).trans (by rw[<-hL.g2];rfl),(h.cell 3).trans (by rw[<-hL.g3];rfl),(h.cell 4).trans (by rw[<-hL.g4];rfl)⟩
theorem rf (h:bD w c fs) (hL:Lays c):Calls prog 168 #[pt c.g 0] w (Ad.Gb w):=by
 have A':w.cell? (ae c.g 190)=some (i6 c.k.at_):=(h.cell _).trans (get_at h.len);have A0:w.cell? (ae c.g 192)=some (.slice none 0 0):=((h.cell _).trans (jV h.len)).trans (by rw[hL.chain]);have a0:=hL.Nt;have a1:=hL.NB;have H:=ja h;have HL:=ja hL;generalize c.k.at_=a at*;have hq: (a-1)/16=0:=by omega
 clear h hL;go_enter func168,ntmps168;go_wp2_with fail
 refine(Tryz.slices_Clone_int_nil 0 0 w).mono ?_;rintro e w' ⟨rfl,hw⟩;rw[hw];clear hw;go_wp2_with(at_builtin;refine bT ?_)
 refine aH rfl _ _ rfl rfl rfl sj underlying50 Sq.cI rfl dc (World.ownsRow_nil _ w.heap.size _ _) rfl (by simp[Value.oneCell']) (by rw[aq];decide) dc sj ?_;rintro v2 J I R;have b2:Bw w J:=bh.grown (show w.grownBy J none from R) lh (λj e=>by cases e);have H2:=H.a.below b2;have A1:Is .i64 J J.heap.size v2 [0]:=bw.aG I;have A3:Ad.Uses J c.k.aU c.k.nQ:=⟨by have:=H2.aU.1;rwa [HL.a.tB]at this,HL.a.aU⟩;have HU:=ja A3;have HB:=ja A1;have B2:=ja b2;have HO:=ja (dZ I);clear R I b2 H2 A1 A3;obtain⟨A2,k2,rfl⟩:=HO.a;go_upto_region 3 with fail
 refine wp_region_still_tail 10 kj kj ?_;obtain⟨w3,o⟩:=ex ({J with drawn:=J.drawn+1}:World);have b3:Bw J w3:=by subst o;exact(Below.refl _ J).drew
 rw[o];have B3:=ja (B2.a.trans (b3.mono B2.a.size));have H3:=H.a.below B3.a;obtain⟨d1,d2,d3,d4⟩:=rB H3 HL.a;have d188:w3.cell? (ae c.g 188)=some c.k.aU:=(H3.cell _).trans (o_ H3.len);have A4:=ja (show Ad.Uses w3 c.k.aU c.k.nQ from⟨by have:=H3.aU.1;rwa [HL.a.tB]at this,HL.a.aU⟩);have A5:=ja (show Is .i64 w3 w3.heap.size (.slice A2 1 k2) [0]from(HB.a.ext lh b3).more b3.size);obtain⟨uv,A6⟩:=ex c.k.aU;rw[A6]at d188 A4;clear o b3 H3 A' A0;simp only[td];repeat still_step
 refine wpStill_nil ?_;go_wp2_with fail
 refine(Ad.Ep uv _ c.k.nQ w3 A4.a A5.a).mono ?_;rintro e w4 ⟨u,rfl,U,b4⟩;have HX:=Lib.hid (⟨Ad.dn U B3.a.size,B3.a.trans (b4.mono B3.a.size)⟩:_/\_);clear U b4;go_wp2;go_ret;exact⟨_,rfl,HX.out⟩
theorem vQ (off:Int) (h0:0<=off) (h1:off<=14) (w:World):
 Calls prog 218 #[i6 off,i6 0] w λe w'=>e=.returned (.tuple #[i6 0,.bool true])/\w=w':=by
 go_enter func218,ntmps218;go_wp2;go_loop [0,6,7] (λa p _=>a=i6 off/\p=i6 0) (λ_ p _=>100-(RowKit.intOf p).toNat)
 case atStart=>exact⟨rfl,rfl⟩
 case round=>obtain⟨rfl,rfl⟩:=hrel;(go_wp2_with(refine(Ad.eJ off om om _).mono ?_;rintro e w' ⟨rfl,rfl⟩));go_ret2;exact⟨by rw[decide_eq_true (show off<15 by omega)];rfl,rfl⟩
theorem Cc (a o:Int) (h0:1<=a) (h1:a<=7) (ho:a-1=o) (w:World):
 Calls prog 167 #[dP,i6 a,i6 0] w (zl w 0):=by
 have j:=ja (Ad.gm a 0 o h0 om om dc om om om);have HO:=ja (Ad.gu a o h0 om om);have HW:=ja (vQ o om om);clear ho;unfold dP at*;go_enter func167,ntmps167;go_upto_region 1 with fail
 obtain⟨k0,I⟩:=Ad.box w;generalize w.alloc (.cells #[i6 20,i6 2,i6 1,i6 4] 60)=w0 at*;obtain⟨g,J⟩:=ex w.heap.size;rw[J]at k0|-;obtain⟨x0,x1,x2,x3⟩:=Ad.four k0;have B:=ja I;clear k0 I J;go_wp2_with fail
 refine(j.a w0).mono ?_;rintro e R ⟨rfl,U⟩;have B1:=ja (B.a.trans (U.mono B.a.size));clear x0 x1 x2 x3 U;go_wp2_with fail
 refine(HO.a R).mono ?_;rintro e w2 ⟨rfl,rfl⟩;go_wp2_with fail
 refine(HW.a R).mono ?_;rintro e w2 ⟨rfl,rfl⟩;go_wp2;go_ret;exact⟨rfl,B1.a⟩
def MM (w:World) (e:Ending) (w':World):Prop:=∃z:Int,(z=0\/z=1)/\zl w z e w'
theorem nS (a:Int) (n:Nat) (h0:1<=a) (h1:a<=7) (hn:n<=9) (w:World):
 Calls prog 167 #[dP,i6 a,i6 (n:Int)] w (MM w):=by
 rcases Nat.eq_zero_or_pos n with rfl|hp
 ·exact(Cc a _ h0 h1 rfl w).mono λe I h=>⟨0,.inl rfl,h⟩
 ·refine(Ad.D9 a 0 (a-1) n h0 om om dc om om om om om om w).mono λe I h=>⟨_,?_,h⟩;unfold db;split
  ·exact .inl rfl
  ·exact .inr rfl
theorem rQ (h:bD w c fs) (hL:Lays c) (n:Nat) (hn:n<=9) (r:Int) (hr:r<=10):
 Calls prog 122 #[pt c.g 0,i6 (n:Int),i6 r] w λe w'=>e=.returned (.bool true)/\Bw w w':=by
 have H:=ja h;have R:=ja hL;clear h hL;go_enter func122,ntmps122;go_upto_region 1 with fail
 refine wp_region_still_tail 9 kj kj ?_;obtain⟨j,J⟩:=ex ({w with drawn:=w.drawn+1}:World);have o:Bw w j:=by subst J;exact(Below.refl _ w).drew
 rw[J];have U:=H.a.below o;obtain⟨d1,d2,d3,d4⟩:=rB U R.a;have d190:j.cell? (ae c.g 190)=some (i6 c.k.at_):=(U.cell _).trans (get_at U.len);have a0:=R.a.Nt;have a1:=R.a.NB;have B3:=ja o;generalize c.k.at_=a at*;clear J o U;simp only[td];repeat still_step
 refine wpStill_nil ?_;clear d1 d2 d3 d4 d190;go_wp2_with fail
 refine(nS a n a0 a1 hn j).mono ?_;rintro e w4 ⟨z,hz,rfl,b4⟩;have B4:=ja (B3.a.trans (b4.mono B3.a.size));have z0:0<=z:=by omega
 have z1:z<=1:=by omega
 clear b4 hz;go_wp2_with fail
 refine(rf (H.a.below B4.a) R.a).mono ?_;rintro e w5 ⟨u,rfl,I,b5⟩;have B5:=ja (B4.a.trans (b5.mono B4.a.size));obtain⟨A,k,rfl⟩:=dZ I;clear b5 I;have hd:r<=17-z:=by omega
 go_wp2;go_ret;exact⟨by simp,B5.a⟩
theorem gm (h:bD w c fs) (hL:Lays c) (r:Int) (hr:r<=10) (hf:fs.length<=2) (hs:c.cL=[]) (hg:∀y∈c.b_,0<=y.1/\y.1<10) (hgl:c.b_.length<=100) (hv:∀f∈fs,f.vs.length<=3):
 Calls prog 67 #[pt c.g 0,i6 r] w λe w'=>e=.returned (.bool true)/\Bw w w':=by
 have H:=ja h;have U:=ja hL;have j:=ja (yh h om hs hg hgl hv);clear h hL hs hg hgl hv;go_enter func67,ntmps67;go_wp2_with fail
 refine j.a.mono ?_;rintro e w1 ⟨n,rfl,hn,J⟩;have I:=ja J;clear J;go_wp2_with fail
 refine(rQ (H.a.below I.a) U.a n om r hr).mono ?_;rintro e w2 ⟨rfl,R⟩;have o:=ja (I.a.trans (R.mono I.a.size));clear R;go_wp2;go_ret;exact⟨rfl,o.a⟩
theorem yA (h:bD w c fs):Calls prog 15 #[pt c.g 0] w λe w'=>∃A k,e=.returned (.slice A fs.length k)/\Bw w w':=by
 have c6:w.cell? (ae c.g 6)=some (.map (some c.files)):=(h.cell _).trans (cg h.len);have J:=jZ fs;have U:=ja (mU h.files (fa 0 fs) (by rw[J];have:=h.gM;omega));clear h;go_enter func15,ntmps15;go_wp2_with fail
 refine U.a.mono ?_;rintro e o ⟨v,rfl,I,R⟩;rw[J]at I;obtain⟨A,k,rfl⟩:=dZ I;have j:=ja R;clear I R;go_wp2;go_ret;exact⟨_,_,rfl,j.a⟩
end
end Co
namespace Co
open Go.RowKit
open Ad (dP box four gA)
attribute [local go_sem] Oper.semAt_some
section
variable {w:World}
theorem Iq {base sz n:Nat} {e:TypeId} {v:Value} {xs:List Value} {P:Program} {K:TypeId} {q:Nat} {l:KV} (h:w.ownsRow base e sz v n xs) (hm:ay w P K q l):v.ownBlock≠some q:=by
 intro I;rcases h.2 with⟨rfl,_⟩|⟨R,cap,cur,rfl,_,U,_⟩
 ·cases I
 ·obtain rfl:R=q:=(by injection I);obtain⟨es,clock,J,_⟩:=hm;rw[U]at J;cases J
def JX (w:World) (e:Ending) (w':World):Prop:=∃A n k,e=.returned (.tuple #[.slice A n k,.bool true])/\Bw w w'
theorem zA (v:Value) (h:Is .i64 w w.heap.size v gA):Calls prog 277 #[dP,i6 1,v] w (JX w):=by
 obtain⟨A1,c1,rfl,Ar,Ax,_⟩:=h.open_;have H:=ja h;have B':=@run_makeMap prog;have As:gA.length=17:=rfl;rw[As]at Ar|-;clear h;unfold dP;go_enter func277,ntmps277;go_upto_region 1 with fail
 obtain⟨k0,b0⟩:=box w;generalize w.alloc (.cells #[i6 20,i6 2,i6 1,i6 4] 60)=w0 at*;obtain⟨g,hg⟩:=ex w.heap.size;rw[hg]at k0|-;have HG:=ja hg;have K0:=ja k0;have B0:=ja b0;obtain⟨z0,z1,z2,z3⟩:=four k0;clear k0 b0 hg;go_wp2_with fail
 refine(Ad.eB w0 1 dc dc).mono ?_;rintro e w1 ⟨rfl,b1⟩;rw[show((1:Int)-1)/16=0 from rfl];have B1:=ja (B0.a.trans (b1.mono B0.a.size));have K1:=ja (K0.a.ext b1);clear z0 z1 z2 z3 b1;go_upto_region 4 with fail
 have m2:=ay.made w1 prog 3;have b2:=(Below.refl w1.heap.size w1).alloc lh (.map #[] 0);obtain⟨q,hq⟩:=ex w1.heap.size;rw[hq]at m2;obtain⟨w2,A4⟩:=ex (w1.alloc (.map #[] 0));rw[A4]at m2 b2;obtain⟨w3,R,m3,t3⟩:=ay.store m2 az underlying101 (by rw[aq];decide) 0 dc (.agg #[]);have b3:Bw w1 w3:=b2.grown t3.grown b2.size (λj e=>by obtain rfl:q=j:=Option.some.inj e;omega);have HQ:=ja (show w.heap.size<=q by have:=B1.a.size;omega);have M3:=ja m3;have B3:=ja (B1.a.trans (b3.mono B1.a.size));have K3:=ja (K1.a.ext b3);have Au:=ja (show g<q by have:=K1.a.lt;omega);rw[<-A4]at R;clear m2 b2 m3 t3 b3 A4;go_wp2;clear R hq;go_loopw [11,13,14,15,16,17,32] (λv _ _ _ _ _ u wr=>∃(j:Nat) (l:KV) (ks:List Int),j<=17/\u=i6 (j:Int)/\ay wr prog 3 q l/\l.length<=j+1/\(∀k:Int,(j:Int)<k->bK l k=none)/\wr.ownsRow w.heap.size 3 1 v ks.length (ints ks)/\ks.length<=j/\v.ownBlock≠some q/\Bw w wr/\ak wr g 60 [i6 20,i6 2,i6 1,i6 4]) (λ_ _ _ _ _ _ u _=>17-(RowKit.intOf u).toNat)
 case atStart=>exact⟨0,_,[],by omega,rfl,M3.a,Nat.le_refl _,λk hk=>by rw[fW,if_neg om];rfl,World.ownsRow_nil _ _ _ _,Nat.le_refl _,by simp[Value.ownBlock],B3.a,K3.a⟩
 case round=>
  obtain⟨j,l,ks,hj,rfl,hm,B2,A5,U,B6,A6,hb,A0⟩:=hrel;have o:=jf hm A5 U A6 hb A0;obtain⟨z0,z1,z2,z3⟩:=four A0;by_cases AI:j<17
  ·have AR:=H.a.below hb;obtain⟨b,off,rfl,hx⟩:=pX AR j (i6 ((j:Int)+1)) (by rw[List.getElem?_map,show gA[j]? =some ((j:Int)+1) by unfold gA;rw[List.getElem?_map,List.getElem?_range AI];rfl];rfl);clear AR hm A5 U A6 hb A0;(go_wp2_with fail);refine(Ad.mv wr ((j:Int)+1) om om).mono ?_;rintro e w4 ⟨rfl,b4⟩;have K4:=ja (o.f.ext b4);have B4:=ja b4;clear z0 z1 z2 z3 b4;obtain⟨z0,z1,z2,z3⟩:=four K4.a;have A2:1<=((j:Int)+1)*16+1/\((j:Int)+1)*16+1<=384/\(((j:Int)+1)*16+1-1)/16=(j:Int)+1:=(by omega);generalize((j:Int)+1)*16+1=a at*;(go_wp2_with fail);refine(Ad.jI w4 a ((j:Int)+1) A2.1 A2.2.1 A2.2.2).mono ?_;rintro e w5 ⟨rfl,b5⟩;have Aa:Ad.lC ((j:Int)+1)=0:=(by unfold Ad.lC;rw[if_pos om]);rw[Aa];have B5:=ja (B4.a.trans (b5.mono B4.a.size));have K5:=ja (K4.a.ext b5);have M5:=ja (o.a.ext B5.a);have A7:=M5.a.gw az underlying101 (oI w5) ((j:Int)+1) (cC _ om om);rw[o.b _ om]at A7;simp only[Option.getD_none,Option.isSome_none]at A7;clear z0 z1 z2 z3 b5 Aa;(go_upto_region 15 with fail);obtain⟨w6,A8⟩:=ex (w5.alloc (.cells #[] 208));have b6:Bw w5 w6:=(by rw[<-A8];exact bh.alloc lh _);rw[A8];obtain⟨w7,R,m7,t7⟩:=ay.store (M5.a.ext b6) az underlying101 (by rw[aq];omega) ((j:Int)+1) (cC _ om om) (.agg #[]);have T7:=af.bt (X:=(· =q)) t7.grown λg e=>(Option.some.inj e).symm;have Ab: (dk l ((j:Int)+1) (.agg #[])).length<=j+2:=by
    unfold dk bf;have Ae:∀(y:Int×Value) (q:KV),(dO y q).length=q.length+1:=by
     intro y q;induction q with
     |nil=>rfl
     |cons z r ih=>unfold dO;split<;>simp[ih]
    rw[Ae];have:=List.length_filter_le (λy:Int×Value=> !decide (y.1=(j:Int)+1)) l;omega
   have J:=o.e.size;have Ah:=(o.e.trans (B5.a.mono J)).trans (b6.mono (Nat.le_trans J B5.a.size));have B7:=ja (Ah.grown t7.grown (Nat.le_trans (Nat.le_trans J B5.a.size) b6.size) (λi e=>by obtain rfl:q=i:=Option.some.inj e;exact HQ.a));have M7:=jb m7 Ab;have O7:=ja (Dv.aJ (aD (aD o.c B5.a) b6) T7 λb hb e=>o.d (by rw[hb,show b=q from e]));have G7:=ja (T7.blk (K5.a.ext b6) (λe=>by have:=Au.a;have e':g=q:=e;omega));have Av:=m7.lt;clear A7 b6 m7 t7 T7 Ab A8 Ah J;(go_wp2_with(at_builtin;refine bT ?_));refine aH rfl _ _ rfl rfl rfl sj underlying50 Sq.cI rfl dc O7.a rfl (by simp[Value.oneCell']) (by rw[aq];omega) om B7.a.size ?_;intro v8 w8 I A';have A3:u11.ownBlock≠some q:=o.d;have T8:af (λb=>u11.ownBlock=some b) w7 w8:=af.bt A' λ_ e=>e;have M8:=ja (T8.map M7.a A3);have Ao:ks.length+1=(ks++[a]).length:=(by simp);have O8:=ja (show w8.ownsRow w.heap.size 3 1 v8 (ks++[a]).length (ints (ks++[a])) by rw[<-Ao];unfold ints at I|-;rw[List.map_append];exact I);have B8:=ja (B7.a.grown A' B7.a.size (λi e=>(O7.a.lt i e).1));have G8:=ja (T8.blk G7.a (λe=>Dv.aO O7.a G7.a dc g e rfl));have Aw:=ja (Iq I M8.a);have Aq:=ja (λ(k:Int) (hk: ((j+1:Nat):Int)<k)=>show bK (dk l ((j:Int)+1) (.agg #[])) k=none by rw[fW,if_neg om];exact o.b k om);clear I A' T8 A3 Ao Av A2;go_wp2;go_roundw;case rel=>exact⟨j+1,_,_,by omega,by simp,M8.a,by have:=M7.b;omega,Aq.a,O8.a,by simp;omega,Aw.a,B8.a,G8.a⟩
   case measure=>simp[RowKit.intOf];omega
  ·obtain rfl:j=17:=(by omega);clear hm A5 U A6 hb A0;obtain⟨A9,c9,rfl⟩:=Dv.aX o.c;go_wp2;go_ret2;exact⟨_,_,_,rfl,o.e⟩
end
end Co
section
open Go.RowKit
variable {F:Fence} {n:Nat} {P:Program} {w:World}
def JR (B:Nat) (Z:World->Prop):Prop:=∀(W:World) (l:Nat) (o o':Obj),Z W->B<=l->W.heap[l]? =some o->o.isCells=false->Z (W.putObj l o')
def JP (Z:World->Prop):Prop:=∀A B:World,Z A->Bw A B->Z B
def I0 (F:Fence) (n:Nat) (P:Program) (gf:Nat) (lb:Array Value) (args:Nat->Array Value) (X:Nat->World->Prop) (w:World):Prop:=
 ∀(l:Nat) (W:World) (R:World->Prop),Bw w W->JP R->
  (∀k W1,Bw W W1->X k W1->YieldAt F (n-1) P l (args k) W1 λe W'=>e=.returned (.bool true)/\R W')->
  CallsIn F n P gf (#[.func (.yield l) #[] #[]]++lb) W λe W'=>(∃v,e=.returned v)/\R W'
theorem lE {g:Operand} {ps:Array Tmp} {assign body:Code} {Q:Exit->Act->World->Prop} {a:Act}
 (hro:F.round=none) (h1:1<=n) {gf:Nat} {lb:Array Value} {args:Nat->Array Value} (hg:a.eval g=.func (.func gf) #[] lb) (hFg:F.fn gf) (eg:∀args w,(callFunc gf args).run P w=.ok (.enter gf args) w)
 {X:Nat->World->Prop} (hseq:I0 F (n-1) P gf lb args X w) (hps:∀k,(args k).size=ps.size)
 (Ax:Nat->Act->World->Prop) (Z:World->Prop) (hAx:∀k a',JR w.heap.size (Ax k a')) (hZ:JR w.heap.size Z) (hZl:JP Z)
 (hassign:∀(l k:Nat) (W:World) (K:Act->World->Prop),Below w.heap.size w W->w.heap.size+2<=W.heap.size->X k W->(∀a' W',KeepsFrom w.heap.size W W'->Ax k a' W'->K a' W')->
  assign.wpIn (F.inRound l) (n-1-1) P (Exit.then K (λ_ _ _=>False)) {tmps:=(ps.zip (args k)).foldl (λt (p,v)=>t.setIfInBounds p v) a.tmps,defers:=[]} W)
 (hbody:∀(l k:Nat) (a':Act) (W:World),Ax k a' W->body.wpIn (F.inRound l) (n-1-1) P (λe _ W'=>e=.normal/\KeepsFrom w.heap.size W W'/\Z W') a' W)
 (hdone:∀(D:Nat) (W:World),w.heap.size<=D->Z W->W.heap[D]? =some (.deferred (some []))->Q .normal {a with defers:={target:=.collected D,args:=#[]}::a.defers} W):
 (Code.rangeFunc g ps assign body).wpIn F n P Q a w:=by
 refine wpIn_rangeFunc (λfn A0=>?_);rw[hro];obtain⟨D,R⟩:=ex w.heap.size;obtain⟨rec,I⟩:∃rec:LoopState->Loop,rec=λst=>{state:=st,pending:=none,fn,tmps:=a.tmps,params:=ps,assign,body,defers:=D}:=⟨_,rfl⟩;obtain⟨V,hV⟩:=ex ((w.alloc (.deferred (some []))).alloc (.loop (rec .ready)));have vl:V.heap[D+1]? =some (.loop (rec .ready)):=by rw[<-hV,<-R];simpa using World.alloc_heap_new (w.alloc (.deferred (some []))) (.loop (rec .ready))
 have vd:V.heap[D]? =some (.deferred (some [])):=by rw[<-hV,<-R];exact(Below.heap_alloc _ _ _ sj).trans (World.alloc_heap_new w _)
 have vb:Below w.heap.size w V:=by rw[<-hV];exact((Below.refl _ w).alloc lh _).alloc sj _
 refine⟨D+1,[{target:=.collected D,args:=#[]}],V,{target:=.fn (.func gf) lb,args:=#[.func (.yield (D+1)) #[] #[]]},V,gf,#[.func (.yield (D+1)) #[] #[]]++lb,V,?_,?_,?_,?_,λ_=>h1,?_⟩
 ·rw[<-hV,I,<-R];exact run_enterLoop_outer _ _ _ _ _
 ·simp only[resolve,hg];simp[go_sem]
 ·intro f' U;simp[Target.leads]at U;subst U;exact hFg
 ·simp[invoke,go_sem,eg]
 rw[R]at hAx hZ hassign hbody hdone;have stay:∀{A B:World} {k:Nat} {o:Obj},A.heap[k]? =some o->Below A.heap.size A B->B.heap[k]? =some o:=λhk J=>(J.block _ (Array.getElem?_eq_some_iff.1 hk).1).trans hk;refine(hseq (D+1) V (λW=>Z W/\W.heap[D+1]? =some (.loop (rec .ready))/\W.heap[D]? =some (.deferred (some []))) vb (λA B h J=>⟨hZl A B h.1 J,stay h.2.1 J,stay h.2.2 J⟩) ?_).mono ?_
 ·intro k W1 J hx;have l1:=stay vl J;have d1:=stay vd J;have hy:=run_yield (P:=P) (args:=args k) l1 (by rw[I];exact hps k);rw[I]at hy;refine⟨fn,_,assign,body,hy,roundIn_of_wpIn A0 (hassign _ k W1 _ (by rw[<-R];exact vb.trans (J.mono vb.size)) (oa ((Array.getElem?_eq_some_iff.1 l1).1)) hx ?_)⟩;clear hy;intro a' W2 j A1;have l2:=j.same _ _ om l1 rfl;have d2:=j.same _ _ lh d1 rfl;refine⟨_,run_beginRound l2 (by rw[I]),?_⟩;have l3: (W2.putObj (D+1) (.loop {rec .ready with state:=.busy})).heap[D+1]? =some (.loop {rec .ready with state:=.busy}):=World.putObj_heap_same (Array.getElem?_eq_some_iff.1 l2).1;have d3: (W2.putObj (D+1) (.loop {rec .ready with state:=.busy})).heap[D]? =some (.deferred (some [])):=(World.putObj_heap_other om).trans d2;refine wpIn_mono (hbody _ k a' _ (hAx k a' _ _ _ _ A1 om l2 rfl)) ?_;rintro e a3 W3 ⟨rfl,A',hz⟩;have l4:=A'.same _ _ om l3 rfl;have d4:=A'.same _ _ lh d3 rfl;have he:=run_endRound (P:=P) none l4;rw[I]at he l4|-;exact⟨_,_,he,rfl,hZ _ _ _ _ hz om l4 rfl,World.putObj_heap_same (Array.getElem?_eq_some_iff.1 l4).1,(World.putObj_heap_other om).trans d4⟩
 ·rintro e W2 ⟨⟨v,rfl⟩,hz,l2,d2⟩;have he:=run_endLoop (P:=P) l2 (by rw[I];simp);rw[I]at he l2;exact⟨none,_,he,hdone _ _ lh (hZ _ _ _ _ hz om l2 rfl) ((World.putObj_heap_other om).trans d2)⟩
end
namespace Co
open Go.RowKit
attribute [local go_sem] Oper.semAt_some
section
variable {w:World}
def pl (k:Nat):List Value:=(List.range 5).map λi=>i6 (if i<k then((i:Int)+2)else 0)
theorem Lj (k:Nat) (h:k<5): (pl k).set k (i6 ((k:Int)+2))=pl (k+1):=by rcases(by omega:k=0\/k=1\/k=2\/k=3\/k=4)with rfl|rfl|rfl|rfl|rfl<;>rfl
theorem GG (W:World): (Instr.makeSlice 50 (i6 5) (i6 5)).run prog W=.ok (.slice (some ⟨W.heap.size,0,none⟩) 5 5) (W.alloc (.cells (pl 0).toArray 3)):=by have h:=run_mk (P:=prog) underlying50 Sq.cI 5 5 lh dc dc W;rw[show madeCells (i6 0).cells (5*1)=(pl 0).toArray by apply Array.ext';rw[show(i6 0).cells=#[i6 0]from rfl,toList_madeCells_one];rfl]at h;exact h
def Eu (g:Nat):Value:=.agg #[i6 1,.slice (some ⟨g,0,none⟩) 5 5,i6 0]
def zD (g:Nat):Array Value:=#[Eu g,i6 7]
def Nh (n₀ g:Nat) (W:World):Prop:=ak W g 3 (pl 5)/\n₀<=g
theorem Cg (n:Nat) (hn:1<=n) (l b1 b2 b3 n₀:Nat) (v:Value) (R:World->Prop) (W:World) (hn₀:n₀<=W.heap.size)
 (hY:∀k W1,Bw W W1->Nh n₀ k W1->YieldAt Fence.wide (n-1) prog l (zD k) W1 λe W'=>e=.returned (.bool true)/\R W')
 (k1:ak W b1 3 [i6 1]) (k2:ak W b2 3 [i6 5]) (k3:ak W b3 50 [v]):
 CallsIn Fence.wide n prog 312 #[.func (.yield l) #[] #[],pt b1 0,pt b2 0,pt b3 0] W λe W'=>(∃v,e=.returned v)/\R W':=by
 refine callsIn_of_wp func312 rfl trivial ?_ rfl;simp only[ntmps312,List.size_toArray,List.length_cons,List.length_nil,Nat.reduceAdd,Nat.reduceSub,Array.replicate_succ,Array.replicate_zero,List.push_toArray,List.append_toArray,List.nil_append,List.cons_append];have x1:=k1.cell 0;have x2:=k2.cell 0;have x3:=k3.cell 0;gi_upto_region 0 with fail;have I:Bw W W.drew:=bh.drew;refine wpIn_wide.2 ?_;have KQ:=jc k1 k2 k3;clear x1 x2 x3 k1 k2 k3;refine wp_region_list 6 [(ez (i6 1)),(ez (i6 5)),(ez v),(ez (i6 1)),(ez (i6 5)),(ez v)]
  (λq=>Bw W q) kj rfl kj ?_ ?_ ?_ ?_
 ·exact I
 ·exact sv
 ·refine⟨rx [] [1] λx hG=>(KQ.a.ext hG).cell 0,rx [] [2] λx hG=>(KQ.b.ext hG).cell 0,rx [] [3] λx hG=>(KQ.c.ext hG).cell 0,rz [0,11] [],rz [1,12] [],rz [2,13] [],trivial⟩
 ·intro x hG;(iterate 6 rintro _ rfl);simp only[ap];(try simp only[Exit.then]);have A0:=ja hG;clear hG I;have o:=GG;gi_wp2;gi_loopw [5,6,7,8,9,10,27] (λu5 u6 _ _ _ _ _ wr=>(u5=i6 1/\u6=i6 5/\Bw W wr)\/(u6=i6 0/\R wr)) (λ_ u6 _ _ _ _ _ _=>(intOf u6).toNat);case atStart=>exact .inl ⟨rfl,rfl,A0.a⟩
  case round=>
   rcases hrel with⟨rfl,rfl,hb⟩|⟨rfl,hr⟩
   ·gi_wp2_with fail;refine⟨trivial,(callsIn_wide.2 (Ad.gu 1 0 dc dc rfl wr)).mono ?_⟩;rintro e w2 ⟨rfl,rfl⟩;gi_wp2_with fail;refine⟨trivial,(callsIn_wide.2 (Ad.eJ 0 dc dc wr)).mono ?_⟩;rintro e w2 ⟨rfl,rfl⟩;gi_upto_region 3 with fail;have U:=(ak.new wr 3 (pl 0).toArray).alloc (.cells #[i6 1,.slice (some ⟨wr.heap.size,0,none⟩) 5 5,i6 0] 358);have J:=ak.new (wr.alloc (.cells (pl 0).toArray 3)) 358 #[i6 1,.slice (some ⟨wr.heap.size,0,none⟩) 5 5,i6 0];rw[World.size_alloc]at J;have h3:Bw W ((wr.alloc (.cells (pl 0).toArray 3)).alloc (.cells #[i6 1,.slice (some ⟨wr.heap.size,0,none⟩) 5 5,i6 0] 358)):=hb.trans ((((Below.refl wr.heap.size wr).alloc lh _).alloc sj _).mono hb.size);obtain⟨g,hg⟩:=ex wr.heap.size;have HG:=ja (show W.heap.size<=g by have:=hb.size;omega);rw[hg]at U J h3|-;generalize(wr.alloc (.cells (pl 0).toArray 3)).alloc (.cells #[i6 1,.slice (some ⟨g,0,none⟩) 5 5,i6 0] 358)=w3 at*;have H3:=Lib.hid (⟨U,J,h3⟩:_/\_/\_);have o:=();have z1:=J.cell 1;clear hb hg U J h3;gi_wp2;clear z1;gi_loopw [9,27] (λ_ u wr=>∃k:Nat,k<=5/\u=i6 (k:Int)/\ak wr g 3 (pl k)/\ak wr (g+1) 358 [i6 1,.slice (some ⟨g,0,none⟩) 5 5,i6 0]/\Bw W wr) (λ_ u _=>5-(intOf u).toNat);case atStart=>exact⟨0,by omega,rfl,H3.out⟩
    case round=>
     obtain⟨k,hk,rfl,U,J,h4⟩:=hrel;have j:=jc U J h4;have z1:=J.cell 1;by_cases A1:k<5
     ·have hx:wr.cell? (ae g k)=some ((pl k)[k]?.getD undef):=(by rw[U.cell k];rcases(by omega:k=0\/k=1\/k=2\/k=3\/k=4)with rfl|rfl|rfl|rfl|rfl<;>rfl);have hf:=U.frozen k;have A2:=(Below.refl g wr).setCell (p:=ae g k) lh (i6 (2+(k:Int)));clear U J h4;gi_wp2_with fail;go_roundw;case rel=>refine⟨k+1,by omega,by go_num,?_,j.b.cf (by show _≠g;omega) _,j.c.trans (A2.mono HG.a)⟩;have e:=Lj k A1;rw[show(k:Int)+2=2+(k:Int) by omega]at e;rw[<-e];exact j.a.aC k _
      case measure=>exact ms
     ·obtain rfl:k=5:=(by omega);clear U J h4;gi_upto_region 9 with fail;clear z1 o;refine wpIn_wide.2 ?_;have I:Bw wr wr.drew:=bh.drew;refine wp_region_list 7 [(ez (i6 1)),(ez (i6 0)),(ez (pt (g+1) 1)),(ez (.slice (some ⟨g,0,none⟩) 5 5)),(ez (i6 5)),(ez (i6 5)),(ez (i6 5))]
       (λq=>Bw wr q) kj rfl kj ?_ ?_ ?_ ?_
      ·exact I
      ·exact sv
      ·refine⟨rz [] [5],?_,rz [] [8],rx [2,46] [] λx hG=>(j.b.ext hG).cell 1,rz [3,47] [],rz [1,45,4,48] [],rz [5,49] [],trivial⟩
       ·intro a x hG hd hs K hK;have A3:_=_:=hd 0 44 kj;clear hd hs;refine pj ?_;go_simp;refine(Ad.gu 1 0 dc dc rfl x).mono ?_;rintro e w' ⟨rfl,rfl⟩;exact hK _ _ rfl hG bh
      ·intro x hG;(iterate 7 rintro _ rfl);simp only[ap];(try simp only[Exit.then]);have H5:=jc (j.a.ext hG) (j.b.ext hG) (j.c.trans (hG.mono j.c.size));have z1:=H5.b.cell 1;clear hG I;gi_wp2_with fail;refine⟨trivial,(callsIn_wide.2 (Ad.eJ 5 dc dc x)).mono ?_⟩;rintro e w2 ⟨rfl,rfl⟩;have z0:=H5.b.cell 0;have z2:=H5.b.cell 2;obtain⟨fn,tmps,assign,body,hy,A'⟩:=hY g x H5.c ⟨H5.a,Nat.le_trans hn₀ HG.a⟩;unfold zD Eu at hy;have HR:=ja A';clear A';gi_wp2;refine HR.a.mono ?_;rintro e W3 ⟨rfl,hr⟩;gi_wp2;go_roundw;case rel=>exact .inr ⟨rfl,hr⟩
       case measure=>simp[intOf]
   ·gi_wp2;go_end0;exact⟨⟨_,rfl⟩,hr⟩
theorem BZ (w:World) (A:Option Addr) (n k:Nat):
 Calls prog 278 #[i6 1,.slice A n k,i6 5] w λe w'=>e=.returned (.func (.func 312) #[] #[pt w.heap.size 0,pt (w.heap.size+1+1) 0,pt (w.heap.size+1) 0])/\
  w'=((w.alloc (.cells #[i6 1] 3)).alloc (.cells #[.slice A n k] 50)).alloc (.cells #[i6 5] 3):=by
 go_enter func278,ntmps278;go_wp2;go_ret;exact⟨rfl,rfl⟩
end
end Co
namespace Co
open Go.RowKit
open Ad (dP four gA)
attribute [local go_sem] Oper.semAt_some
section
variable {w:World}
def eh (g:Nat):List Value:=[i6 1,.slice (some ⟨g,0,none⟩) 5 5,i6 0]
theorem GU: (prog.info? 358).map (λi=>(i.zero,i.size,i.bytes))=some (some (.agg #[i6 0,.slice none 0 0,i6 0]),3,40):=by kernel_rfl
def NH (B:Nat) (v:Value) (W:World):Prop:=∃g,W.ownsRow B 358 3 v 1 (eh g)/\ak W g 3 (pl 5)/\B<=g
def MK (w:World) (e:Ending) (w':World):Prop:=∃v,e=.returned (.tuple #[v,i6 7,i6 0,i6 0])/\NH w.heap.size v w'/\Bw w w'
theorem ax (w:World) (t:TypeId) (a:Array Value) (g:Nat) (hg:w.heap.size=g):∃w',w.alloc (.cells a t)=w'/\ak w' g t a.toList/\Below g w w'/\w'.heap.size=g+1:=by subst hg;exact⟨_,rfl,ak.new w t a,bh.alloc lh _,by simp⟩
structure Gn (g:Nat) (W:World):Prop where
 k8:ak W (g+1) 354 [.slice none 0 0]
 k9:ak W (g+1+1) 3 [i6 0]
 dS:ak W (g+1+1+1) 3 [i6 0]
 jr:ak W (g+1+1+1+1) 28 [i6 0]
theorem Gn.ext {g:Nat} {W W':World} (h:Gn g W) (hb:Bw W W'):Gn g W':=⟨h.k8.ext hb,h.k9.ext hb,h.dS.ext hb,h.jr.ext hb⟩
structure Gl (W:World) (g:Nat) (v:Value) (b3 b4:Bool) (q:World):Prop where
 t:af (λb=>g+1<=b/\b<=g+4) W q
 k8:ak q (g+1) 354 [if b3 then v else .slice none 0 0]
 k9:ak q (g+1+1) 3 [i6 (if b4 then 7 else 0)]
 dS:ak q (g+1+1+1) 3 [i6 0]
 jr:ak q (g+1+1+1+1) 28 [i6 0]
theorem af.uS (x:World) {g:Nat} (b:Nat) (u:Value) (h:g+1<=b/\b<=g+4):af (λb=>g+1<=b/\b<=g+4) x (x.setCell (ae b 0) u):=(af.setCell x b 0 u).mono λ_ e=>e▸h
section
variable {W q:World} {g:Nat} {v:Value} {b3 b4:Bool}
theorem Gl.turn (h:Gl W g v b3 b4 q) {q':World} (ht:af (λb=>g+1<=b/\b<=g+4) q q'):af (λb=>g+1<=b/\b<=g+4) W q':=h.t.trans ht λ_ e=>.inl e
theorem Gl.s8 (h:Gl W g v b3 b4 q):Gl W g v true b4 (q.setCell (ae (g+1) 0) v):=⟨h.turn (af.uS q (g+1) v om),h.k8.aC 0 v,h.k9.cf (by show _≠g+1;omega) _,h.dS.cf (by show _≠g+1;omega) _,h.jr.cf (by show _≠g+1;omega) _⟩
theorem Gl.s9 (h:Gl W g v b3 b4 q):Gl W g v b3 true (q.setCell (ae (g+1+1) 0) (i6 7)):=⟨h.turn (af.uS q (g+1+1) _ om),h.k8.cf (by show _≠g+1+1;omega) _,h.k9.aC 0 _,h.dS.cf (by show _≠g+1+1;omega) _,h.jr.cf (by show _≠g+1+1;omega) _⟩
theorem Gl.OK (h:Gl W g v b3 b4 q):Gl W g v b3 b4 (q.setCell (ae (g+1+1+1) 0) (i6 0)):=⟨h.turn (af.uS q (g+1+1+1) _ om),h.k8.cf (by show _≠g+1+1+1;omega) _,h.k9.cf (by show _≠g+1+1+1;omega) _,h.dS.aC 0 _,h.jr.cf (by show _≠g+1+1+1;omega) _⟩
theorem Gl.N4 (h:Gl W g v b3 b4 q):Gl W g v b3 b4 (q.setCell (ae (g+1+1+1+1) 0) (i6 0)):=⟨h.turn (af.uS q (g+1+1+1+1) _ om),h.k8.cf (by show _≠g+1+1+1+1;omega) _,h.k9.cf (by show _≠g+1+1+1+1;omega) _,h.dS.cf (by show _≠g+1+1+1+1;omega) _,h.jr.aC 0 _⟩
end
theorem cy {W:World} {b l:Nat} {t:TypeId} {cs:List Value} {o o':Obj} (h:ak W b t cs) (ho:W.heap[l]? =some o) (hc:o.isCells=false):ak (W.putObj l o') b t cs:=by
 have I:b≠l:=λe=>by subst e;unfold ak at h;rw[h]at ho;cases ho;cases hc
 exact(World.putObj_heap_other I).trans h
theorem kh {n₀:Nat} {A W:World} {l:Nat} {o o':Obj} (h:Below n₀ A W) (_:W.heap[l]? =some o) (hn:n₀<=A.heap.size) (hl:n₀<=l):Below n₀ A (W.putObj l o'):=h.grown (grownBy_putObj' W l o') (Nat.le_trans hn h.size) (λk e=>by cases e;exact hl)
theorem J_ (v:Value) (h:Is .i64 w w.heap.size v gA):CallsIn Fence.wide 10 prog 241 #[dP,i6 1,v,i6 5] w (MK w):=by
 have H:=ja h;clear h;unfold dP;refine callsIn_of_wp_marks func241 rfl trivial ?_ rfl;simp only[ntmps241,List.size_toArray,List.length_cons,List.length_nil,Nat.reduceAdd,Nat.reduceSub,Array.replicate_succ,Array.replicate_zero,List.push_toArray,List.append_toArray,List.nil_append,List.cons_append];gi_upto_region 1 with fail;obtain⟨g,hg⟩:=ex w.heap.size;obtain⟨wa,ea,ka,ba,sa⟩:=ax w 60 #[i6 20,i6 2,i6 1,i6 4] g hg;rw[ea];obtain⟨wb,eb,kb,bb,sb⟩:=ax wa 354 #[.slice none 0 0] _ sa;rw[eb];obtain⟨wc,ec,kc,bc,sc⟩:=ax wb 3 #[i6 0] _ sb;rw[ec];obtain⟨wd,ed,kd,bd,sd⟩:=ax wc 3 #[i6 0] _ sc;rw[ed];obtain⟨w0,e0,k0,b0,s0⟩:=ax wd 28 #[i6 0] _ sd;rw[e0];rw[<-sa]at bb;rw[<-sb]at bc;rw[<-sc]at bd;rw[<-sd]at b0;have HR:=ja (show Gn g w0 from⟨((kb.ext bc).ext bd).ext b0,(kc.ext bd).ext b0,kd.ext b0,k0⟩);have As:=(((ka.ext bb).ext bc).ext bd).ext b0;have U:Below g w w0:=(((ba.trans (bb.mono om)).trans (bc.mono om)).trans (bd.mono om)).trans (b0.mono om);have HG:=ja (show w.heap.size=g/\w0.heap.size=g+5 by omega);have HB:=ja U;have HK:=ja As;obtain⟨z0,z1,z2,z3⟩:=four As;clear ea eb ec ed e0 ka kb kc kd k0 ba bb bc bd b0 sa sb sc sd s0 As U hg;rw[HG.a.1];gi_wp2_with fail;refine⟨trivial,(callsIn_wide.2 (Ad.gm 1 0 0 dc dc dc dc dc dc dc w0)).mono ?_⟩;rintro e w1 ⟨rfl,b1⟩;have B7:=ja (HR.a.ext b1);have B8:=ja (HK.a.ext b1);have B0:=ja (HB.a.trans (b1.mono (oa HG.a)));have Au:=ja (show g+5<=w1.heap.size by have:=b1.size;have:=HG.a;omega);clear z0 z1 z2 z3 b1;obtain⟨z0,z1,z2,z3⟩:=four B8.a;obtain⟨A1,c1,rfl,_,_,_⟩:=H.a.open_;rw[show gA.length=17 from rfl]at*;gi_wp2_with fail;refine⟨trivial,(callsIn_wide.2 (zA (w:=w1) _ ?free)).mono ?_⟩;case free=>exact bw.more (bw.below H.a (HG.a.1▸B0.a)) (oi Au.a HG.a)
 rintro e w2 ⟨A2,n2,c2,rfl,b2⟩;have B9:=ja (B7.a.ext b2);have BB:=ja (B0.a.trans (b2.mono (oa Au.a)));have BO:=ja (show g+5<=w2.heap.size by have:=b2.size;have:=Au.a;omega);clear z0 z1 z2 z3 b2;gi_upto_region 8 with fail;obtain⟨h,hh⟩:=ex w2.heap.size;obtain⟨wa,ea,ka,ba,sa⟩:=ax w2 354 #[.slice none 0 0] h hh;rw[ea];obtain⟨wb,eb,kb,bb,sb⟩:=ax wa 3 #[i6 1] _ sa;rw[eb];obtain⟨w3,e3,k3,b3,s3⟩:=ax wb 3 #[i6 0] _ sb;rw[e3];rw[<-sa]at bb;rw[<-sb]at b3;have U:Below h w2 w3:=(ba.trans (bb.mono om)).trans (b3.mono om);have B1:=ja (show w2.heap.size=h/\w3.heap.size=h+3/\g+5<=h by have:=BO.a;omega);have BQ:=ja (B9.a.ext (hh▸U));have Bg:=ja (BB.a.trans (U.mono (oa B1.a)));have Av:=jc ((ka.ext bb).ext b3) (kb.ext b3) k3;rw[hh];clear ea eb e3 ka kb k3 ba bb b3 sa sb s3 U hh;gi_wp2_with fail;refine⟨trivial,(callsIn_wide.2 (BZ w3 A2 n2 c2)).mono ?_⟩;rintro e w4 ⟨rfl,e4⟩;obtain⟨p,hp⟩:=ex w3.heap.size;rw[hp];obtain⟨wa,ea,ka,ba,sa⟩:=ax w3 3 #[i6 1] p hp;rw[ea]at e4;obtain⟨wb,eb,kb,bb,sb⟩:=ax wa 50 #[.slice A2 n2 c2] _ sa;rw[eb]at e4;obtain⟨w5,e5,k5,b5,s5⟩:=ax wb 3 #[i6 5] _ sb;rw[e5]at e4;clear e5;subst e4;revert k5 b5 s5;generalize w4=w5;intro k5 b5 s5;rw[<-sa]at bb;rw[<-sb]at b5;have U:Below p w3 w5:=(ba.trans (bb.mono om)).trans (b5.mono om);have I:=ja (show w5.heap.size=p+3/\p=h+3/\g+5<=h by have:=B1.a;omega);have Aq:Bw w3 w5:=by unfold Bw;rw[hp];exact U
 have B2:=ja (BQ.a.ext Aq);have Bt:=ja (Bg.a.trans (U.mono (oa I.a)));have A7:=Lib.hid (⟨Av.a.ext Aq,Av.b.ext Aq,Av.c.ext Aq⟩:ak w5 h 354 [.slice none 0 0]/\ak w5 (h+1) 3 [i6 1]/\ak w5 (h+1+1) 3 [i6 0]);have B3:I0 Fence.wide 9 prog 312 #[pt p 0,pt (p+1+1) 0,pt (p+1) 0] zD (Nh (p+3)) w5:=λl W R J _ hY=>Cg 9 dc l p (p+1+1) (p+1) (p+3) _ R W (oi J.size I.a) hY ((((ka.ext bb).ext b5)).ext J) (k5.ext J) ((kb.ext b5).ext J);have HQ:=ja B3;clear ea eb ka kb k5 ba bb b5 sa sb s5 U hp B3;gi_wp2;generalize hT:Act.mk _ _=a0;refine lE rfl dc (gf:=312) (lb:=#[pt p 0,pt (p+1+1) 0,pt (p+1) 0]) (by subst hT;rfl) trivial (enters_of func312 kj rfl)
  HQ.a (λ_=>rfl)
  (λk a' W=>∃b,a'={tmps:=(((a0.tmps.setIfInBounds 41 (Eu k)).setIfInBounds 42 (i6 7)).setIfInBounds 17 (pt b 0)).setIfInBounds 18 (i6 7),defers:=[]}/\ak W b 358 (eh k)/\Nh (p+3) k W/\Below (p+3) w5 W)
  (λW=>∃v k,ak W h 354 [v]/\W.ownsRow (p+3) 358 3 v 1 (eh k)/\Nh (p+3) k W/\ak W (h+1) 3 [i6 7]/\ak W (h+1+1) 3 [i6 0]/\Gn g W/\Below g w W)
  ?sa ?sz ?lz ?assign ?body ?done
 case sa=>rintro k a' W l o o' ⟨b,e,kb,kx,J⟩ hl ho hc;exact⟨b,e,cy kb ho hc,⟨cy kx.1 ho hc,kx.2⟩,kh J ho (oa I.a) (oa I.a)⟩
 case sz=>rintro W l o o' ⟨v,k,kv,own,kx,A8,AI,r,J⟩ hl ho hc;have hw:w5.heap.size<=W.heap.size:=Nat.le_trans hl (Nat.le_of_lt (Array.getElem?_eq_some_iff.1 ho).1);exact⟨v,k,cy kv ho hc,ownsRow_putObj own _ ho hc,⟨cy kx.1 ho hc,kx.2⟩,cy A8 ho hc,cy AI ho hc,⟨cy r.k8 ho hc,cy r.k9 ho hc,cy r.dS ho hc,cy r.jr ho hc⟩,kh J ho (oi I.a HG.a) (oi I.a HG.a)⟩
 case lz=>rintro A B ⟨v,k,kv,own,kx,A8,AI,r,J⟩ U;exact⟨v,k,kv.ext U,aD own U,⟨kx.1.ext U,kx.2⟩,A8.ext U,AI.ext U,r.ext U,J.trans (U.mono (oi J.size HG.a))⟩
 case assign=>rintro l k W K J hs hx hK;subst hT;have Aa:=(Below.refl W.heap.size W).alloc lh (.cells #[i6 1,.slice (some ⟨k,0,none⟩) 5 5,i6 0] 358);have Ab:=ak.new W 358 #[i6 1,.slice (some ⟨k,0,none⟩) 5 5,i6 0];have HK:=ja hK;have HX:=ja hx;have HB:=jb J Aa;have Bu:=ja Ab;clear J Aa Ab hK hx;unfold zD Eu at*;dsimp only at*;gi_wp2;refine HK.a _ _ ((KeepsOthers.alloc _ _).from _) ⟨_,rfl,Bu.a,⟨HX.a.1.alloc _,HX.a.2⟩,?_⟩;have:=I.a;exact(HB.a.trans (HB.b.mono HB.a.size)).mono om
 case body=>
  rintro l k a' W ⟨b,rfl,kb,kx,J⟩;subst hT;have HB:=jc kb kx J;have x0:=kb.cell 0;have x1:=kb.cell 1;have x2:=kb.cell 2;have AR:Below w5.heap.size w5 W:=(by rw[I.a.1];exact J);have HV:=jd (A7.out.1.ext AR) (A7.out.2.1.ext AR) (A7.out.2.2.ext AR) (B2.a.ext AR);have B4:=ja AR;have By:=HV.a.cell 0;clear kb kx J AR;unfold Eu eh at*;dsimp only at*;simp only[List.setIfInBounds_toArray,List.set_cons_succ,List.set_cons_zero];gi_upto_region 15 with fail;refine j9 (by rintro⟨_,_,h⟩;exact Exit.noConfusion (And.left (a:=Exit.outgrown=Exit.normal) h)) kj ?_;(go_wp2_with(at_builtin;refine bT ?_));have Aa:=(Below.refl W.heap.size W).alloc lh (.cells #[i6 1,.slice (some ⟨k,0,none⟩) 5 5,i6 0] 358);have Ab:=ak.new W 358 #[i6 1,.slice (some ⟨k,0,none⟩) 5 5,i6 0];have Aw:p+3<=(W.alloc (.cells #[i6 1,.slice (some ⟨k,0,none⟩) 5 5,i6 0] 358)).heap.size:=(by have:=B4.a.size;have:=I.a;simp;omega);obtain⟨v',wa,Ae,A3,A6,_⟩:=aE (P:=prog) (ty:=354) underlying354 GU rfl dc (World.ownsRow_nil (W.alloc (.cells #[i6 1,.slice (some ⟨k,0,none⟩) 5 5,i6 0] 358)) (p+3) 358 3) (Ab.fe 0 1 1 3 sj lh (by simp[maxLen])) (by simp[Value.oneCell']) (by rw[aq];decide) dc Aw;refine aN rfl _ _ _ rfl rfl rfl Ae ?_;obtain⟨A9,c9,rfl⟩:=dZ A3;have Ax:Below (p+3) w5 wa:=((HB.c).trans (Aa.mono (by simp at Aw;have:=B4.a.size;have:=I.a;omega))).grown A6 Aw (λj e=>by cases e);have B5:KeepsFrom w5.heap.size W wa:=((KeepsOthers.alloc W _).trans (KeepsOthers.of_grownBy A6 (λj o e _=>by cases e))).from _;have B':=jc Ax B5 A3;have A':Below w5.heap.size w5 wa:=(by rw[I.a.1];exact Ax);have Ah:=Lib.hid (⟨A7.out.1.ext A',A7.out.2.1.ext A',A7.out.2.2.ext A',B2.a.ext A'⟩:_/\_/\_/\_);have By:=Ah.out.1.cell 0;have f14:=Ah.out.1.frozen 0;have D5:=Ah.out.2.1.cell 0;have f15:=Ah.out.2.1.frozen 0;have Ar:=ja (show Nh (p+3) k wa from⟨(HB.b.1.alloc _).grown A6 (λe=>by cases e),HB.b.2⟩);clear Ax B5 A3 A' A6 Ae Aa Ab x0 x1 x2;simp only[Act.put];go_wp2;gi_wp2;have hS:=I.a;have hG:=HG.a;have C4:Below g w wa:=Bt.a.trans (B'.a.mono om);have CC:=(C4.setCell (p:=ae h 0) (by show g<=h;omega) (.slice A9 1 c9)).setCell (p:=ae (h+1) 0) (by show g<=h+1;omega) (i6 7);have v:=Ah.out;have ne:∀x y:Nat,x≠y->∀(v:Value) {W:World} {t:TypeId} {cs:List Value},ak W x t cs->ak (W.setCell (ae y 0) v) x t cs:=λx y Cd v _ _ _ k=>k.cf Cd v;refine⟨B'.b.trans (((KeepsOthers.setCell wa _ _).trans (KeepsOthers.setCell _ _ _)).from _),.slice A9 1 c9,?_,k,Ad.cJ (Ad.cJ B'.c v.1 dc 0 _) (v.2.1.cf (by show _≠h;omega) _) dc 0 _,⟨ne _ _ (oa Ar.a.2) _ (ne _ _ (oa Ar.a.2) _ Ar.a.1),Ar.a.2⟩,?_,ne _ _ om _ (ne _ _ om _ v.2.2.1),?_,CC⟩
  ·have:=v.1.aC 0 (.slice A9 1 c9);exact ne _ _ om _ this
  ·have:=(ne (h+1) h om (.slice A9 1 c9) v.2.1).aC 0 (i6 7);exact this
  ·have r:=v.2.2.2;exact⟨ne _ _ om _ (ne _ _ om _ r.k8),ne _ _ om _ (ne _ _ om _ r.k9),ne _ _ om _ (ne _ _ om _ r.dS),ne _ _ om _ (ne _ _ om _ r.jr)⟩
 case done=>
  rintro D W hD ⟨v,k,kv,own,kx,A8,AI,r,J⟩ hK;subst hT;obtain⟨A9,c9,rfl⟩:=dZ own;gi_upto_region 17 with fail;refine wpIn_wide.2 ?_;have HX:=jd kv A8 AI r;have HY:=jd own kx J hK;clear kv own kx A8 AI r J hK;have HN:=ja (show g+5<=h by have:=I.a;omega);have B6:Gl W g (.slice A9 1 c9) false false W.drew:=⟨af.aj bh.drew,HX.d.k8,HX.d.k9,HX.d.dS,HX.d.jr⟩;refine cK 7 [(ez (.slice A9 1 c9)),(ez (i6 7)),(ez (i6 0)),(ez undef),(ez undef),(ez undef),(ez undef)]
   (λf_ q_=>Gl W g (.slice A9 1 c9) (f_ 3) (f_ 4) q_) (λ_ q_ q'=>af (λb=>g+1<=b/\b<=g+4) q_ q') kj rfl kj ?_ ?_ ?_ ?_
  ·exact B6
  ·intro i_ j_ v_ q_ q' E1 hv hE;rcases j_ with _|_|_|_|_|_|_|j_<;>exact hv
  ·refine⟨lx [] [14] λf x hG=>(hG.t.blk HX.a (oa HN.a)).cell 0,lx [] [15] λf x hG=>(hG.t.blk HX.b (oa HN.a)).cell 0,lx [] [16] λf x hG=>(hG.t.blk HX.c (oa HN.a)).cell 0,?_,?_,?_,?_,trivial⟩
   ·intro f a x Ao A4 A5 hG hd hs K hK;have n3:f 3=false:=Ao;have h8:_=_:=hs 8 kj;have E4:_=_:=hd 0 55 kj;clear hd hs A4 A5;refine pj ?_;have c1:=hG.k8.cell 0;have f1:=hG.k8.frozen 0;rw[n3]at c1;go_simp;refine hK _ _ rfl ?_ (af.uS x (g+1) _ om);show Gl W g (.slice A9 1 c9) (decide (3=3)||f 3) (decide (4=3)||f 4) _;exact hG.s8
   ·intro f a x Ao A4 A5 hG hd hs K hK;have n4:f 4=false:=Ao;have h9:_=_:=hs 9 kj;have E5:_=_:=hd 1 56 kj;clear hd hs A4 A5;refine pj ?_;have c1:=hG.k9.cell 0;have f1:=hG.k9.frozen 0;rw[n4]at c1;go_simp;refine hK _ _ rfl ?_ (af.uS x (g+1+1) _ om);show Gl W g (.slice A9 1 c9) (decide (3=4)||f 3) (decide (4=4)||f 4) _;exact hG.s9
   ·intro f a x Ao A4 A5 hG hd hs K hK;have E6:_=_:=hs 10 kj;have E7:_=_:=hd 2 57 kj;clear hd hs A4 A5;refine pj ?_;have c1:=hG.dS.cell 0;have f1:=hG.dS.frozen 0;go_simp;refine hK _ _ rfl ?_ (af.uS x (g+1+1+1) _ om);show Gl W g (.slice A9 1 c9) (decide (3=5)||f 3) (decide (4=5)||f 4) _;exact hG.OK
   ·intro f a x Ao A4 A5 hG hd hs K hK;have E8:_=_:=hs 11 kj;clear hd hs A4 A5;refine pj ?_;have c1:=hG.jr.cell 0;have f1:=hG.jr.frozen 0;go_simp;refine hK _ _ rfl ?_ (af.uS x (g+1+1+1+1) _ om);show Gl W g (.slice A9 1 c9) (decide (3=6)||f 3) (decide (4=6)||f 4) _;exact hG.N4
  ·intro x hG;replace hG: (λf_ q_=>Gl W g (.slice A9 1 c9) (f_ 3) (f_ 4) q_) (λj=>decide (j<7)) x:=hG;(try dsimp only at hG);rintro _ rfl _ rfl _ rfl;simp only[Act.put,List.setIfInBounds_toArray,List.set_cons_zero,List.set_cons_succ,gC,List.getD_cons_zero,List.getD_cons_succ];(try simp only[Exit.then]);refine ‹∀(a:Act) (w_1:World),Code.wpIn _ _ _ Code.ret _ a w_1->_› _ _ ?_;refine wpIn_ret ?_;have hG:Gl W g (.slice A9 1 c9) true true x:=hG;have hS:=I.a;have Co:=HG.a;have hX:∀i,(g+1<=i/\i<=g+4)->i<p+3:=λi hi=>(by omega);have A0:=(hG.t.block D (Array.getElem?_eq_some_iff.1 HY.d).1 om).trans HY.d;have bx:Below w.heap.size w x:=Co.1▸⟨hG.t.os.trans HY.c.os,hG.t.tape.trans HY.c.tape,hG.t.output.trans HY.c.output,Nat.le_trans HY.c.size hG.t.size,λi hi=>(hG.t.block i (oa HY.c.size) om).trans (HY.c.block i hi)⟩;have ox:x.ownsRow (p+3) 358 3 (.slice A9 1 c9) 1 (eh k):=Dv.aJ HY.a hG.t λb J=>(by have:=(HY.a.lt b J).1;omega);have kx:ak x k 3 (pl 5):=hG.t.blk HY.b.1 (oa HY.b.2);have y8:=(cy (o':=.deferred none) hG.k8 A0 rfl).cell 0;have y9:=(cy (o':=.deferred none) hG.k9 A0 rfl).cell 0;have D0:=(cy (o':=.deferred none) hG.dS A0 rfl).cell 0;have D3:=(cy (o':=.deferred none) hG.jr A0 rfl).cell 0;refine⟨by simp,.inl ⟨_,_,rfl,run_takeDeferred A0,?_⟩⟩;refine⟨.tuple #[.slice A9 1 c9,i6 7,i6 0,i6 0],?_,.slice A9 1 c9,rfl,⟨k,?_,cy kx A0 rfl,by have:=HY.b.2;omega⟩,kh bx A0 lh om⟩
   ·clear B6;simp[results,results241,go_sem,y8,y9,D0,D3]
   ·exact Ad.dn (ownsRow_putObj ox _ A0 rfl) om
theorem I2 (v:Value) (h:Is .i64 w w.heap.size v gA):Calls prog 241 #[dP,i6 1,v,i6 5] w (MK w):=callsIn_wide.1 (J_ v h)
end
end Co
end Go.Proofs.YtdhgejiacehpbaaGreatDoor
