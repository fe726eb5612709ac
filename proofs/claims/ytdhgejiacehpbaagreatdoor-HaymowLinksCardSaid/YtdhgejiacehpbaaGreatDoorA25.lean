import Derived.Test.YtdhgejiacehpbaaGreatDoorA24
import Derived.Laws.EntriesVeiled
set_option maxRecDepth 100000
set_option maxHeartbeats 16000000
set_option linter.all false
namespace Go.Proofs.YtdhgejiacehpbaaGreatDoor
open Go.Proofs.Tryz
namespace PaW
open Go.RowKit Go.ChangeShapes Go.WideShapes Go.ChangeAt
theorem EP {w:World} {base n:Nat} {e:TypeId} {v:Value} {xs:List Value} (h:w.ownsRow base e 1 v n xs) (h0:0<n):
 ∃g cap,v=.slice (some ⟨g,0,none⟩) n cap/\base<=g/\g<w.heap.size/\(∀i,i<n->w.cell? (ae g i)=xs[i]?)/\(∀i,w.frozen? (ae g i)=false)/\n<=cap/\cap<=maxLen/\
  ∀i u,(w.setCell (ae g i) u).ownsRow base e 1 v n (xs.set i u):=by
 obtain⟨h1,J⟩:=h;rcases J with⟨_,J⟩|⟨g,cap,cur,rfl,R,o,U,hm,hs,j⟩
 ·omega
 ·have I:ak w g e cur.toList:=o;refine⟨g,cap,rfl,R,I.lt,λi hi=>?_,λi=>I.frozen i,U,hm,λi u=>?_⟩
  ·rw[I.cell i,<-j,Nat.mul_one,List.getElem?_take,if_pos hi]
  ·have:=(I.aC i u).own R n cap 1 (by rw[List.length_set,Array.length_toList,hs]) U hm;rw[Nat.mul_one,List.take_set]at this;rw[<-j,Nat.mul_one];exact this
theorem step_skip (ns:List Pa.N) (c:Pa.N) (h:c=[]\/c=[46]):Pa.step (ns,0) c=(ns,0):=by unfold Pa.step;rw[if_neg sj,if_pos h]
theorem G' (ns:List Pa.N):Pa.step (ns,0) [46,46]=(ns.dropLast,0):=by unfold Pa.step;rw[if_neg sj,if_neg sj,if_pos rfl]
theorem CW (ns:List Pa.N) (c:Pa.N) (h0:c≠[]) (h1:c≠[46]) (h2:c≠[46,46]):Pa.step (ns,0) c=if Tl.dR c then(if 8<=ns.length then([],16)else(ns++[c],0))else([],11):=by unfold Pa.step;rw[if_neg sj,if_neg (by simp[h0,h1]),if_neg h2]
theorem Db (b:List UInt8) (h: (Pa.parse b).2≠0):Pa.parent b=([],[],(Pa.parse b).2):=by unfold Pa.parent;rw[if_pos h]
end PaW
namespace PaW
open Go.RowKit Go.ChangeShapes Go.WideShapes Go.ChangeAt
attribute [local go_sem] Oper.semAt_some
theorem ff {β:Type} (B base g:Nat) (t e:TypeId) (sz:Nat) (k:β->Nat) (f:β->List Value) (cs:β->Value->List Value):OwnFrom B (λs W=>∃v,ak W g t (cs s v)/\W.ownsRow base e sz v (k s) (f s)):=by
 rintro s A W row ⟨v,hv,R⟩ U j;refine⟨v,bC B g t (λ(_:Unit)=>cs s v) () A W row hv U j,R.kept U ?_⟩;rcases R.2 with⟨rfl,_⟩|⟨g',cap,cur,rfl,_,J,_⟩
 ·exact .inl rfl
 ·refine .inr λer=>?_;obtain⟨_,o,I,hc⟩:=j g' er.symm;rw[J]at I;cases I;cases hc
theorem cJ {w:World} {g:Nat} {t:TypeId} {cs:List Value} {base:Nat} {e:TypeId} {sz n:Nat} {v:Value} {xs:List Value} (h:w.ownsRow base e sz v n xs) (hg:ak w g t cs) (hne:e≠t) (i:Nat) (u:Value): (w.setCell (ae g i) u).ownsRow base e sz v n xs:=h.kept (nX w g i u) (.inr (λe=>aW h hg hne e.symm))
theorem sY {W:World} {g h:Nat} {v:Value} {er:Int} (k2:ak W g 22 [v]) (k3:ak W h 28 [i6 er]) (tmps:Array Value) (h2:tmps.getD 2 undef=pt g 0) (h3:tmps.getD 3 undef=pt h 0):
 (results f62 tmps).run prog W=.ok (.tuple #[v,i6 er]) W:=by
 have R:W.cell? (ae g 0)=some v:=k2.cell 0;have I:W.cell? (ae h 0)=some (i6 er):=k3.cell 0;have U: (loadVar 22 (ae g 0)).run prog W=.ok v W:=by simp[go_sem,R]
 have J: (loadVar 28 (ae h 0)).run prog W=.ok (i6 er) W:=by simp[go_sem,I]
 rw[Array.getD_eq_getD_getElem?]at h2 h3;unfold results;rw[results62];simp[h2,h3,U,J,asAddr]
def rN (pc:Pa.N) (n:Nat):Nat:=if Tl.dR pc then(if 8<=n then 16 else 0)else 11
theorem CG (pc:Pa.N) (g n c:Nat) (A:Option Addr) (w:World) (hpl:pc.length<1099511627776) (hg:g<w.heap.size) (hc:w.cell? (ae g 0)=some (.slice A n c)):
 Calls prog 117 #[.string ⟨pc.toArray⟩,pt g 0] w λe w'=>e=.returned (i6 (rN pc n:Nat))/\Bw w w':=by
 have U:=ja (sO pc);have I:=ja (show rN pc n=if Tl.dR pc then(if 8<=n then 16 else 0)else 11 from rfl)
 generalize(⟨pc.toArray⟩:ByteArray)=S at*;go_enter func117,ntmps117;go_wp2_with fail
 refine(U.a w hpl).mono ?_;rintro e w1 ⟨rfl,J⟩;have o:=cl J hg hc;clear hc U;cases hi:Tl.dR pc with
 |false=>rw[hi,if_neg dc]at I;clear hi;go_wp2;go_ret;exact⟨by rw[I.a];rfl,J⟩
 |true=>
  rw[hi,if_pos rfl]at I;clear hi;by_cases j:8<=n
  ·have R: (8:Int)<=(n:Int):=(by omega);rw[if_pos j]at I;go_wp2;go_ret;exact⟨by rw[I.a];rfl,J⟩
  ·have R:¬(8:Int)<=(n:Int):=(by omega);rw[if_neg j]at I;go_wp2;go_ret;exact⟨by rw[I.a];rfl,J⟩
abbrev Gs (pre:List Piece):List Pa.N:=(Pa.ps (pre.map (·.1))).1
abbrev He (pre:List Piece):Nat:=(Pa.ps (pre.map (·.1))).2
theorem oX {W:World} {base g:Nat} {px:List Piece} {v:Value} {ms:List Pa.N} (h:Pa.ps (px.map (·.1))=(ms,0)) (hb:ak W g 22 [v]) (ho:W.ownsRow base 9 1 v ms.length (strs ms)):
 ∃v,ak W g 22 [v]/\W.ownsRow base 9 1 v (Gs px).length (strs (Gs px)):=⟨v,hb,by unfold Gs;rw[h];exact ho⟩
theorem p7 {px:List Piece} {ms:List Pa.N} {k:Nat} (h:Pa.ps (px.map (·.1))=(ms,k)):He px=k:=by unfold He;rw[h]
theorem EA (b:List UInt8) (w:World) (hbl:b.length<=1000000):
 CallsIn Fence.wide 9 prog 62 #[.string ⟨b.toArray⟩] w λr w'=>∃u,r=.returned (.tuple #[u,i6 ((Pa.parse b).2:Nat)])/\fy w' w'.heap.size u (Pa.parse b).1/\Bw w w':=by
 have HP:=ja (show Pa.parse b=if preB b=true then(if 200<b.length then([],16)else Pa.ps (Pa.cut b))else([],11) by unfold Pa.parse preB;simp)
 have HQ:=ja (Pa.FV b);have HH:=ja (yL b);have D0:=dX b;refine callsIn_of_wp_marks func62 rfl trivial ?_ rfl;simp only[ntmps62,List.size_toArray,List.length_cons,List.length_nil,Nat.reduceAdd,Nat.reduceSub,Array.replicate_succ,Array.replicate_zero,List.push_toArray,List.append_toArray,List.nil_append,List.cons_append];obtain⟨S,hS⟩:=ex (⟨b.toArray⟩:ByteArray);rw[hS]at HH D0|-;have HS:=ja hS;clear hS;have k2:=(ak.new w 22 #[.slice none 0 0]).alloc (.cells #[i6 0] 28);have k3:=ak.new (w.alloc (.cells #[.slice none 0 0] 22)) 28 #[i6 0];have Ah:=((Below.refl w.heap.size w).alloc lh (.cells #[.slice none 0 0] 22)).alloc sj (.cells #[i6 0] 28);rw[World.size_alloc]at k3;gi_wp2_with fail;refine⟨trivial,?_⟩;obtain⟨w0,BQ⟩:=ex ((w.alloc (.cells #[.slice none 0 0] 22)).alloc (.cells #[i6 0] 28));rw[BQ]at k2 k3 Ah|-;clear BQ;refine(callsIn_wide.2 (HH.a w0)).mono ?_;rintro e w1 ⟨rfl,rfl⟩;by_cases I:preB b=true;rotate_left
 ·have Bg:preB b=false:=(by simpa using I);rw[if_neg I]at HP;rw[Bg];have c2:=k2.cell 0;have c3:=k3.cell 0;have f2:=k2.frozen 0;have f3:=k3.frozen 0;clear I Bg HQ HH;gi_wp2;have z2:=(k2.aC 0 (.slice none 0 0)).cf (p:=ae (w.heap.size+1) 0) sj (i6 11);have z3:=(k3.cf (p:=ae w.heap.size 0) sj (.slice none 0 0)).aC 0 (i6 11);have zb:=(Ah.setCell (p:=ae w.heap.size 0) sj (.slice none 0 0)).setCell (p:=ae (w.heap.size+1) 0) sj (i6 11);exact⟨_,sY z2 z3 _ rfl rfl,.slice none 0 0,by rw[HP.a];rfl,by rw[HP.a];exact fy.fp _ _,zb⟩
 rw[if_pos I]at HP;rw[I];have B2:=ja (HQ.a (by simpa [preB]using I));clear HQ HH I;by_cases AI:200<b.length
 ·have h2: (200:Int)<(b.length:Int):=(by omega);rw[if_pos AI]at HP;have c2:=k2.cell 0;have c3:=k3.cell 0;have f2:=k2.frozen 0;have f3:=k3.frozen 0;clear AI B2;gi_wp2;have z2:=(k2.aC 0 (.slice none 0 0)).cf (p:=ae (w.heap.size+1) 0) sj (i6 16);have z3:=(k3.cf (p:=ae w.heap.size 0) sj (.slice none 0 0)).aC 0 (i6 16);have zb:=(Ah.setCell (p:=ae w.heap.size 0) sj (.slice none 0 0)).setCell (p:=ae (w.heap.size+1) 0) sj (i6 16);exact⟨_,sY z2 z3 _ rfl rfl,.slice none 0 0,by rw[HP.a];rfl,by rw[HP.a];exact fy.fp _ _,zb⟩
 have h2:¬(200:Int)<(b.length:Int):=by omega
 rw[if_neg AI]at HP;clear AI;have D3:=k3.lt;obtain⟨g4,B3⟩:=ex w1.heap.size;have k4:=((ak.new w1 22 #[.slice none 0 0]).alloc (.cells #[.func (.func 117) #[] #[pt g4 0]] 29)).alloc (.cells #[.string S] 9);have k5:=(ak.new (w1.alloc (.cells #[.slice none 0 0] 22)) 29 #[.func (.func 117) #[] #[pt g4 0]]).alloc (.cells #[.string S] 9);have k6:=ak.new ((w1.alloc (.cells #[.slice none 0 0] 22)).alloc (.cells #[.func (.func 117) #[] #[pt g4 0]] 29)) 9 #[.string S];have j2:=((k2.alloc (.cells #[.slice none 0 0] 22)).alloc (.cells #[.func (.func 117) #[] #[pt g4 0]] 29)).alloc (.cells #[.string S] 9);have j3:=((k3.alloc (.cells #[.slice none 0 0] 22)).alloc (.cells #[.func (.func 117) #[] #[pt g4 0]] 29)).alloc (.cells #[.string S] 9);have Bt:=((Ah.alloc om (.cells #[.slice none 0 0] 22)).alloc (by simp;omega) (.cells #[.func (.func 117) #[] #[pt g4 0]] 29)).alloc (by simp;omega) (.cells #[.string S] 9);rw[World.size_alloc]at k5;rw[World.size_alloc,World.size_alloc]at k6;have Ao: (((w1.alloc (.cells #[.slice none 0 0] 22)).alloc (.cells #[.func (.func 117) #[] #[pt g4 0]] 29)).alloc (.cells #[.string S] 9)).heap.size=w1.heap.size+3:=by simp
 have c5: ((w1.alloc (.cells #[.slice none 0 0] 22)).alloc (.cells #[.nilFunc] 29)).cell? (ae (w1.heap.size+1) 0)=some .nilFunc:=by have:=(ak.new (w1.alloc (.cells #[.slice none 0 0] 22)) 29 #[.nilFunc]).cell 0;rw[World.size_alloc]at this;exact this
 have f5: ((w1.alloc (.cells #[.slice none 0 0] 22)).alloc (.cells #[.nilFunc] 29)).frozen? (ae (w1.heap.size+1) 0)=false:=by have:=(ak.new (w1.alloc (.cells #[.slice none 0 0] 22)) 29 #[.nilFunc]).frozen 0;rw[World.size_alloc]at this;exact this
 rw[B3]at k4 k5 k6 Ao c5 f5;have K4:=ja k4;have K5:=ja k5;have K6:=ja k6;have J2:=ja j2;have J3:=ja j3;have B4:=ja Bt;have B5:=ja Ao;clear k4 k5 k6 j2 j3 Bt Ao k2 k3 Ah;gi_wp2_with (refine⟨trivial,?_⟩;gi_at_call 118;refine(callsIn_wide.2 (Br _ _)).mono ?_;rintro e w' ⟨rfl,rfl⟩);clear c5 f5;obtain⟨W0,Bu⟩:=ex (((w1.alloc (.cells #[.slice none 0 0] 22)).alloc (.cells #[.func (.func 117) #[] #[pt g4 0]] 29)).alloc (.cells #[.string S] 9));rw[Bu]at K4 K5 K6 J2 J3 B4 B5|-;have k4:=K4.a;have k5:=K5.a;have k6:=K6.a;have k2:=J2.a;have k3:=J3.a;have A8:=B4.a;have EC:=B5.a;clear Bu K4 K5 K6 J2 J3 B4 B5;rw[B3]at D3;clear B3;generalize hT:Act.mk _ _=a0;refine wpIn_rangeFunc_ownH rfl dc (gf:=163) (lb:=#[pt (g4+1+1) 0]) (by subst hT;rfl) trivial (enters_of func163 kj rfl)
  (vk 8 dc (g4+1+1) w.heap.size b hbl W0 om A8.size (by rw[HS.a];exact k6.cell 0)) belowK_t (belowK_b A8.size) bh (λ_=>rfl)
  (λpre W=>(((((∃v,ak W g4 22 [v]/\W.ownsRow w.heap.size 9 1 v (Gs pre).length (strs (Gs pre)))/\ak W w.heap.size 22 [.slice none 0 0])/\ak W (w.heap.size+1) 28 [i6 0])/\ak W (g4+1) 29 [.func (.func 117) #[] #[pt g4 0]])/\He pre=0)/\Bw w W)
  (λc pre W=>(((c=.ret/\He pre≠0)/\ak W w.heap.size 22 [.slice none 0 0])/\ak W (w.heap.size+1) 28 [i6 (He pre:Nat)])/\Bw w W)
  (OwnFrom.and (OwnFrom.and (OwnFrom.and (OwnFrom.and (OwnFrom.and (ff _ _ _ _ _ _ (λpre:List Piece=>(Gs pre).length) (λpre=>strs (Gs pre)) (λ_ v=>[v])) (bC _ _ _ _)) (bC _ _ _ _)) (bC _ _ _ _)) (ownFrom_pure _ _)) (ownFrom_below lh A8.size))
  (λc=>OwnFrom.and (OwnFrom.and (OwnFrom.and (ownFrom_pure _ _) (bC _ _ _ _)) (bC _ _ _ (λpre:List Piece=>[i6 (He pre:Nat)]))) (ownFrom_below lh A8.size))
  ⟨⟨⟨⟨⟨⟨_,k4,World.ownsRow_nil _ _ _ _⟩,k2⟩,k3⟩,k5⟩,rfl⟩,A8⟩
  (λx a' _=>a'={tmps:=(a0.tmps.setIfInBounds 17 (.string ⟨x.1.toArray⟩)).setIfInBounds 6 (.string ⟨x.1.toArray⟩),defers:=[]})
  (λx a'=>ownFrom_pure _ _)
  ?assign ?body ?done ?stop
 case assign=>rintro l9 pre x W K hI hK;subst hT;unfold IF at*;dsimp only at*;gi_wp2;exact hK _ _ (KeepsFrom.refl _ _) bh hI rfl
 case body=>
  rintro l9 pre ⟨pc,B6⟩ a' W EK ⟨r9,D5⟩ ⟨⟨⟨⟨⟨⟨v,bv,R⟩,A'⟩,A0⟩,A5⟩,I⟩,A1⟩ rfl Dv;subst hT;dsimp only;simp only[List.setIfInBounds_toArray,List.set_cons_succ,List.set_cons_zero];have A4:=ja (show Pa.ps ((pre++[(⟨pc,B6⟩:Piece)]).map (·.1))=Pa.step (Pa.ps (pre.map (·.1))) pc by rw[List.map_append];exact Pa.IA _ _);have By:=(Pa.tc (pre.map (·.1))).1;obtain⟨J,A6⟩:∃J,Pa.ps (pre.map (·.1))=(J,0):=⟨(Pa.ps (pre.map (·.1))).1,Prod.ext rfl I⟩;unfold Gs at R;rw[A6]at A4 By R;dsimp only at By R;generalize pre++[(⟨pc,B6⟩:Piece)]=px at*;obtain⟨A,c,rfl⟩:=bS R;have c4:=bv.cell 0;have f4:=bv.frozen 0;clear I Dv A6 k2 k3 k4 k5 k6 D5;have q0:=Ec pc [];have q1:=Ec pc [46];have q2:=Ec pc [46,46];have AR:=ja (CG pc);obtain⟨SC,Ax⟩:=ex (⟨pc.toArray⟩:ByteArray);rw[Ax]at q0 q1 q2 AR;have B1: (⟨List.toArray pc⟩:ByteArray)=SC:=Ax;rw[B1];have C4:=ja Ax;clear Ax B1;by_cases e0:pc=[]
  ·have HE:=ja (show Pa.ps (px.map (·.1))=(J,0) by rw[A4.a,step_skip J pc (.inl e0)]);rw[beq_iff_eq.2 e0]at q0;clear e0 q1 q2 AR A4;gi_wp2;exact⟨KeepsFrom.refl _ _,Below.refl _ _,⟨⟨⟨⟨oX HE.a bv R,A'⟩,A0⟩,A5⟩,p7 HE.a⟩,A1⟩
  rw[beq_eq_false_iff_ne.2 e0]at q0;by_cases e1:pc=[46]
  ·have HE:=ja (show Pa.ps (px.map (·.1))=(J,0) by rw[A4.a,step_skip J pc (.inr e1)]);rw[beq_iff_eq.2 e1]at q1;clear e0 e1 q2 AR A4;gi_wp2;exact⟨KeepsFrom.refl _ _,Below.refl _ _,⟨⟨⟨⟨oX HE.a bv R,A'⟩,A0⟩,A5⟩,p7 HE.a⟩,A1⟩
  rw[beq_eq_false_iff_ne.2 e1]at q1;by_cases e2:pc=[46,46]
  ·have HE:=ja (show Pa.ps (px.map (·.1))=(J.dropLast,0) by rw[A4.a,e2,G']);rw[beq_iff_eq.2 e2]at q2;clear e0 e1 e2 AR A4 C4;by_cases en:0<J.length
   ·have E1:=λW=>ml A J.length c (J.length-1) (by have:=R;obtain⟨_,_,h,_,_,_,_,h7,_⟩:=EP this en;injection h with _ _ h;omega) ((J.length:Int)-1) om W;have CC:=CF R (k:=J.length-1) om en;rw[qX,<-List.dropLast_eq_take]at CC;have EX:max ((J.length:Int)-1) 0=(J.length:Int)-1:=(by omega);gi_wp2;have Aa:=cJ CC bv dc 0 (.slice A (J.length-1) c);have b2:ak _ g4 22 [.slice A (J.length-1) c]:=bv.aC 0 (.slice A (J.length-1) c);have Aq:=A'.cf (p:=ae g4 0) (by show w.heap.size≠g4;omega) (.slice A (J.length-1) c);have Ar:=A0.cf (p:=ae g4 0) (by show w.heap.size+1≠g4;omega) (.slice A (J.length-1) c);have As:=A5.cf (p:=ae g4 0) (by show g4+1≠g4;omega) (.slice A (J.length-1) c);have A7:=(Below.refl w.heap.size W).setCell (p:=ae g4 0) (by show w.heap.size<=g4;omega) (.slice A (J.length-1) c);exact⟨(KeepsOthers.setCell W (ae g4 0) (.slice A (J.length-1) c)).from _,A7,⟨⟨⟨⟨oX HE.a b2 (by rw[List.length_dropLast];exact Aa),Aq⟩,Ar⟩,As⟩,p7 HE.a⟩,A1.trans A7⟩
   ·obtain rfl:J=[]:=List.length_eq_zero_iff.1 om;have E1:=λW=>ml A 0 c 0 (Nat.zero_le _) (0:Int) rfl W;clear en;gi_wp2;have Aa:=cJ R bv dc 0 (.slice A 0 c);have b2:ak _ g4 22 [.slice A 0 c]:=bv.aC 0 (.slice A 0 c);have Aq:=A'.cf (p:=ae g4 0) (by show w.heap.size≠g4;omega) (.slice A 0 c);have Ar:=A0.cf (p:=ae g4 0) (by show w.heap.size+1≠g4;omega) (.slice A 0 c);have As:=A5.cf (p:=ae g4 0) (by show g4+1≠g4;omega) (.slice A 0 c);have A7:=(Below.refl w.heap.size W).setCell (p:=ae g4 0) (by show w.heap.size<=g4;omega) (.slice A 0 c);exact⟨(KeepsOthers.setCell W (ae g4 0) (.slice A 0 c)).from _,A7,⟨⟨⟨⟨oX HE.a b2 Aa,Aq⟩,Ar⟩,As⟩,p7 HE.a⟩,A1.trans A7⟩
  rw[beq_eq_false_iff_ne.2 e2]at q2;have Au: (∃er,rN pc J.length=er/\er≠0/\Pa.ps (px.map (·.1))=([],er))\/(rN pc J.length=0/\J.length<8/\Pa.ps (px.map (·.1))=(J++[pc],0)):=by
   rw[A4.a,CW J pc e0 e1 e2];unfold rN;cases Tl.dR pc with
   |false=>exact .inl ⟨11,rfl,by decide,rfl⟩
   |true=>
    by_cases h8:8<=J.length
    ·exact .inl ⟨16,by rw[if_pos rfl,if_pos h8],by decide,by rw[if_pos rfl,if_pos h8]⟩
    ·exact .inr ⟨by rw[if_pos rfl,if_neg h8],by omega,by rw[if_pos rfl,if_neg h8]⟩
  have c5:=A5.cell 0;have A9:=ja Au;clear e0 e1 e2 A4 Au;gi_wp2_with fail;refine⟨trivial,?_⟩;refine(nr (AR.a g4 J.length c A W B6 bv.lt c4)).mono ?_;rintro e W1 ⟨rfl,hb⟩;have B':=bv.ext hb;have Ab:=A'.ext hb;have Ad:=A0.ext hb;have B7:=A5.ext hb;have U:=aD R hb;have B8:=A1.trans (hb.mono A1.size);have Cd:=hb.mono A1.size;have B9:=KeepsOthers.of_grownBy (aI hb none) (λj o e=>by cases e);clear c4 c5 f4 bv A' A0 A5 R AR hb;generalize rN pc J.length=ne at*;rcases A9.a with⟨er,BB,E4,hE⟩|⟨BB,h8,hE⟩
  ·subst BB;have HE:=ja hE;have hz: ((ne:Int) != 0)=true:=(by rw[bne_iff_ne];omega);have c2:=Ab.cell 0;have c3:=Ad.cell 0;have f2:=Ab.frozen 0;have f3:=Ad.frozen 0;clear hE A9;gi_wp2;have z2:=(Ab.aC 0 (.slice none 0 0)).cf (p:=ae (w.heap.size+1) 0) sj (i6 (ne:Int));have z3:=(Ad.cf (p:=ae w.heap.size 0) sj (.slice none 0 0)).aC 0 (i6 (ne:Int));have zb:=(B8.setCell (p:=ae w.heap.size 0) sj (.slice none 0 0)).setCell (p:=ae (w.heap.size+1) 0) sj (i6 (ne:Int));have zk:=(B9.trans (KeepsOthers.setCell W1 (ae w.heap.size 0) (.slice none 0 0))).trans (KeepsOthers.setCell _ (ae (w.heap.size+1) 0) (i6 (ne:Int)));exact⟨zk.from _,⟨⟨⟨rfl,by rw[p7 HE.a];exact E4⟩,z2⟩,by rw[p7 HE.a];exact z3⟩,zb⟩
  ·subst BB;have HE:=ja hE;clear hE A9;gi_upto_region 13 with fail;refine j9 (by rintro⟨_,_,h⟩;exact h) kj ?_;have c4:=B'.cell 0;(go_wp2_with(at_builtin;refine bT ?_));refine aH rfl _ _ rfl rfl rfl sj underlying22 AJ rfl dc U rfl (by simp[Value.oneCell']) (by rw[aq];omega) om B8.size ?_;rintro v2 wb Av A3;have B0:=B'.grown A3 (aW U B' dc);have Aq:=Ab.grown A3 (aW U Ab dc);have Ar:=Ad.grown A3 (aW U Ad dc);have As:=B7.grown A3 (aW U B7 dc);have Co:=B9.trans (KeepsOthers.of_grownBy A3 (mC U));have E5:=Cd.grown A3 B8.size (λj e=>(U.lt j e).1);obtain⟨A2,c2,rfl⟩:=bS Av;have cb:=B0.cell 0;have fb:=B0.frozen 0;clear A3 U c4 B' Ab Ad B7 B9 Cd;go_wp2;have Aa:=cJ Av B0 dc 0 (.slice A2 (J.length+1) c2);have b2:ak _ g4 22 [.slice A2 (J.length+1) c2]:=B0.aC 0 (.slice A2 (J.length+1) c2);have E6:=Aq.cf (p:=ae g4 0) (by show w.heap.size≠g4;omega) (.slice A2 (J.length+1) c2);have E7:=Ar.cf (p:=ae g4 0) (by show w.heap.size+1≠g4;omega) (.slice A2 (J.length+1) c2);have E8:=As.cf (p:=ae g4 0) (by show g4+1≠g4;omega) (.slice A2 (J.length+1) c2);have A7:=E5.setCell (p:=ae g4 0) (by show w.heap.size<=g4;omega) (.slice A2 (J.length+1) c2);have zk:=Co.trans (KeepsOthers.setCell wb (ae g4 0) (.slice A2 (J.length+1) c2));refine⟨zk.from _,A7,⟨⟨⟨⟨oX HE.a b2 ?_,E6⟩,E7⟩,E8⟩,p7 HE.a⟩,A1.trans A7⟩;rw[List.length_append,List.length_singleton,uJ];rw[<-C4.a]at Aa;exact Aa
 case done=>rintro D ys W hD Ae ⟨⟨⟨⟨⟨⟨v,bv,R⟩,A'⟩,A0⟩,A5⟩,I⟩,A1⟩ hK;subst hT;have A6:Pa.parse b=(Gs ys,0):=(by rw[HP.a,B2.a,<-Ae];exact Prod.ext rfl I);have Aw:=ja A6;clear A6 Ae I k2 k3 k4 k5 k6;generalize Gs ys=J at*;obtain⟨A,c,rfl⟩:=bS R;have c4:=bv.cell 0;have c2:=A'.cell 0;have c3:=A0.cell 0;have f2:=A'.frozen 0;have f3:=A0.frozen 0;gi_wp2;have z2:=(A'.aC 0 (.slice A J.length c)).cf (p:=ae (w.heap.size+1) 0) sj (i6 0);have z3:=(A0.cf (p:=ae w.heap.size 0) sj (.slice A J.length c)).aC 0 (i6 0);have zb:=(A1.setCell (p:=ae w.heap.size 0) sj (.slice A J.length c)).setCell (p:=ae (w.heap.size+1) 0) sj (i6 0);have zk:=(KeepsOthers.setCell W (ae w.heap.size 0) (.slice A J.length c)).trans (KeepsOthers.setCell _ (ae (w.heap.size+1) 0) (i6 0));have y3:=A0.cf (p:=ae w.heap.size 0) sj (.slice A J.length c);have zo:=cJ (cJ R A' dc 0 (.slice A J.length c)) y3 dc 0 (i6 0);have BO:=zk.same D _ hK rfl;refine⟨by simp,.inl ⟨_,_,rfl,run_takeDeferred BO,?_⟩⟩;have w2:=z2.grown (grownBy_putObj' _ D (.deferred none)) (λe=>by injection e with e;omega);have w3:=z3.grown (grownBy_putObj' _ D (.deferred none)) (λe=>by injection e with e;omega);have E9:fy _ _ (.slice A J.length c) J:=fy.aG (ownsRow_putObj zo (.deferred none) BO rfl);exact⟨_,sY w2 w3 _ rfl rfl,_,by rw[Aw.a];rfl,by rw[Aw.a];exact E9,zb.trans (belowK_b (w:=w) lh _ D _ _ (Nat.le_trans A8.size hD) BO rfl rfl)⟩
 case stop=>rintro D c9 pre W hD ⟨k,hk,Ae⟩ ⟨⟨⟨⟨rfl,I⟩,A'⟩,A0⟩,A1⟩ hK;subst hT;have A6:Pa.parse b=([],He pre):=(by have hg:=(Pa.tc (pre.map (·.1))).2.2.resolve_left I;unfold He at I|-;rw[HP.a,B2.a,Pa.vt (Pa.fx b) k (by rw[<-Ae];exact I),<-Ae];exact Prod.ext hg rfl);have Aw:=ja A6;clear A6 Ae I k2 k3 k4 k5 k6;generalize He pre=er at*;gi_wp2;refine⟨by simp,.inl ⟨_,_,rfl,run_takeDeferred hK,?_⟩⟩;have w2:=A'.grown (grownBy_putObj' _ D (.deferred none)) (λe=>by injection e with e;omega);have w3:=A0.grown (grownBy_putObj' _ D (.deferred none)) (λe=>by injection e with e;omega);exact⟨_,sY w2 w3 _ rfl rfl,_,by rw[Aw.a],by rw[Aw.a];exact fy.fp _ _,A1.trans (belowK_b (w:=w) lh _ D _ _ (Nat.le_trans A8.size hD) hK rfl rfl)⟩
theorem rC (b:List UInt8) (w:World) (hbl:b.length<=1000000):
 Calls prog 62 #[.string ⟨b.toArray⟩] w λr w'=>∃u,r=.returned (.tuple #[u,i6 ((Pa.parse b).2:Nat)])/\fy w' w'.heap.size u (Pa.parse b).1/\Bw w w':=
 callsIn_wide.1 (EA b w hbl)
end PaW
namespace PaW
open Go.RowKit Go.ChangeShapes Go.WideShapes Go.ChangeAt
theorem yp (b:List UInt8) (w:World) (hbl:b.length<=1000000):
 Calls prog 136 #[.string ⟨b.toArray⟩] w λe w'=>∃u,e=.returned (.tuple #[u,.string ⟨(Pa.parent b).2.1.toArray⟩,i6 ((Pa.parent b).2.2:Nat)])/\fy w' w'.heap.size u (Pa.parent b).1/\Bw w w':=by
 have A0:=ja (rC b);have A1:=ja (Db b);have HP:=ja (show(Pa.parse b).2=0->Pa.parent b=if(Pa.parse b).1=[]then([],[],1)else((Pa.parse b).1.dropLast,(Pa.parse b).1.getLastD [],0)fromλh=>by unfold Pa.parent;rw[if_neg (by rw[h];simp)])
 have A2:=(Pa.zm b).1;generalize Pa.parse b=PR at*;obtain⟨I,er⟩:=PR;dsimp only at A0 A1 HP A2;generalize(⟨b.toArray⟩:ByteArray)=S at*;go_enter func136,ntmps136;go_wp2_with fail
 refine(A0.a w hbl).mono ?_;rintro e w1 ⟨u1,rfl,R,b1⟩;obtain⟨A,c,rfl,A5,AR,hE⟩:=R.open_;by_cases he:er=0;rotate_left
 ·have Aa: ((er:Int) != 0)=true:=(by rw[bne_iff_ne];omega);have U:=ja (A1.a he);clear he hE R;go_wp2;go_ret3;exact⟨.slice none 0 0,by rw[U.a];rfl,by rw[U.a];exact fy.fp _ _,b1⟩
 subst he;by_cases hn:I=[]
 ·subst hn;have U:=ja (HP.a rfl);rw[if_pos rfl]at U;clear hE R;go_wp2;go_ret3;exact⟨.slice none 0 0,by rw[U.a];rfl,by rw[U.a];exact fy.fp _ _,b1⟩
 have U:=ja (HP.a rfl);rw[if_neg hn]at U;have A3:0<I.length:=List.length_pos_iff.2 hn;have hz: ((I.length:Int)==0)=false:=by rw[beq_eq_false_iff_ne];omega
 obtain⟨j,off,rfl,A6,h0⟩:=hE (I.length-1) om;have A4:I.getD (I.length-1) []=I.getLastD []:=by rw[List.getLastD_eq_getLast?,List.getLast?_eq_getElem?,List.getD_eq_getElem?_getD]
 rw[A4]at h0;have o:=λW=>ml (some ⟨j,off,none⟩) I.length c (I.length-1) om ((I.length-1:Nat):Int) rfl W;have hh:=fy.head R (show I.length-1<=I.length by omega);rw[<-List.dropLast_eq_take]at hh;generalize I.getLastD []=la at*;have HH:=ja hh;have Ab:=ja (show I.dropLast.length=I.length-1 from List.length_dropLast);generalize I.dropLast=ms at*;obtain⟨J,A'⟩:∃J,I.length=J+1:=⟨I.length-1,by omega⟩;rw[A',Nat.add_sub_cancel]at HH o h0;have Ad: (((J+1:Nat):Int)==0)=false:=by rw[beq_eq_false_iff_ne];omega
 rw[A']at A2|-;clear A' hh A4 hn hz A3 hE R A5;have A7:j<w1.heap.size:=A6;have Ae:IntKind.i64.wrap ((J:Nat):Int)=((J:Nat):Int):=IntWalk.i64_in _ om;go_upto_region 7 with fail
 have A8:Bw w1 w1.drew:=bh.drew;refine wp_region_list 10 [(ez (.slice (some ⟨j,off,none⟩) (J+1) c)),(ez (i6 ((J:Nat):Int))),(ez (.slice (some ⟨j,off,none⟩) J c)),(ez (.slice (some ⟨j,off,none⟩) (J+1) c)),(ez (i6 ((J:Nat):Int))),(ez (pt j (off+J))),(ez (.string ⟨la.toArray⟩)),(ez (.slice (some ⟨j,off,none⟩) J c)),(ez (.string ⟨la.toArray⟩)),(ez (i6 0))]
  (λq=>Bw w1 q) kj rfl kj ?_ ?_ ?_ ?_
 ·exact A8
 ·exact sv
 ·refine⟨rz [] [5],rz [] [7],rx [0,22,1,23] [] λx hG=>o x,rz [] [5],rz [] [7],rx [3,25,4,26] [] λx hG=>(by omega: (J:Int)<(J:Int)+1),rx [5,27] [] λx hG=>cl hG A7 h0,rz [2,24] [],rz [6,28] [],rz [] [],trivial⟩
 ·intro x hG;(iterate 10 rintro _ rfl);simp only[ap];(try simp only[Exit.then]);have A9:=b1.trans (hG.mono b1.size);have AI:=(bw.ext HH.a lh hG).more hG.size;clear o h0;go_wp2;go_ret3;exact⟨.slice (some ⟨j,off,none⟩) J c,by rw[U.a];rfl,by rw[U.a];exact AI,A9⟩
end PaW
section
theorem Nj (l:List UInt8) (h:l≠[]) (ho:Tl.iI l=false) (j:Nat) (hj:j<(Tl.rn l).2) (h47: (l.getD j 0).toNat=47): (Tl.rn l).1=47:=by
 have hw:=(Tl.jS l h).2.1;have R:j=0\/j=1\/j=2\/j=3:=by omega
 unfold Tl.iI Tl.rn at ho;unfold Tl.rn at hj|-;rcases R with rfl|rfl|rfl|rfl<;>rw[h47]at hj ho|-;all_goals
  generalize(l.getD 0 0).toNat=b0 at*;generalize(l.getD 1 0).toNat=b1 at*;generalize(l.getD 2 0).toNat=b2 at*;generalize(l.getD 3 0).toNat=b3 at*;generalize l.length=n at*;clear hw h h47;unfold Lib.decodeN at*;revert hj ho
  repeat' split
  all_goals (first|(intros;rfl)|(intro I J;exfalso;simp at I J;done)|(intro I J;exfalso;simp only at I;omega)|(intros;omega))
theorem NZ:∀(n:Nat) (l:List UInt8),l.length<=n->(Tl.bI l).all Tl.kE=true->(47:UInt8)∉l:=by
 intro n;induction n with
 |zero=>intro l h _;have:l=[]:=List.eq_nil_of_length_eq_zero om;subst this;simp
 |succ n ih=>
  intro l h ha;by_cases R:l=[]
  ·subst R;simp
  ·have hl:=Tl.iO l R;rw[Tl.eT l R,List.all_cons,Bool.and_eq_true]at ha;obtain⟨U,h2⟩:=ha;have J:=ih (l.drop (Tl.it l).s.length) (by rw[List.length_drop];omega) h2;intro hm;rw[<-List.take_append_drop (Tl.it l).s.length l]at hm;rcases List.mem_append.1 hm with hm|hm
   ·unfold Tl.kE at U;simp only[Bool.and_eq_true,Bool.not_eq_true']at U;have I:Tl.iI l=false:=by
     have:=U.1.1.1;unfold Tl.it at this;cases ho:Tl.iI l with
     |false=>rfl
     |true=>rw[ho,if_pos rfl]at this;cases this
    have A':Tl.it l=⟨((Tl.rn l).1:Nat),l.take (Tl.rn l).2,false⟩:=(by unfold Tl.it;rw[I,if_neg dc]);have o:=U.2;rw[A']at o hm;dsimp only at o hm;rw[List.length_take]at hm;obtain⟨j,hj,e⟩:=List.getElem_of_mem hm;rw[List.length_take]at hj;have A0:j<l.length:=(by omega);have:=Nj l R I j om (by rw[List.getD_eq_getElem?_getD,List.getElem?_eq_getElem A0,Option.getD_some];rw[List.getElem_take]at e;rw[e];rfl);rw[this]at o;exact absurd o dc
   ·exact J hm
theorem xB {c:List UInt8} (h:Tl.dR c=true): (47:UInt8)∉c/\c≠[]/\c≠[46]/\c≠[46,46]:=by unfold Tl.dR at h;simp only[Bool.and_eq_true,decide_eq_true_eq,bne_iff_ne]at h;obtain⟨⟨⟨⟨⟨I,J⟩,_⟩,_⟩,R⟩,U⟩:=h;exact⟨NZ _ c lh I,by rintro rfl;simp at J,R,U⟩
theorem Dw (c:List UInt8) (h: (47:UInt8)∉c):Pa.cut c=[c]:=by
 induction c with
 |nil=>rfl
 |cons d c ih=>
  have hd:¬d=47:=λe=>h (by rw[e];exact List.mem_cons_self);show(if d=47 then _ else match Pa.cut c with|[]=>[[d]]|x::xs=>(d::x)::xs)=_
  rw[if_neg hd,ih (λhm=>h (List.mem_cons_of_mem _ hm))]
def eG (s:List UInt8):List UInt8:=47::s
theorem qR {s:List UInt8} (h:Tl.dR s=true):Pa.parse (eG s)=([s],0):=by have j:=(Tl.e_ s).1 h;obtain⟨I,J,R,U⟩:=xB h;unfold Pa.parse eG;rw[if_pos (show(47::s).head?=some 47 from rfl),if_neg (by rw[List.length_cons];omega)];rw[show Pa.cut (47::s)=[]::Pa.cut s from rfl,Dw s I,Pa.Li];show Pa.step ([],0) s=_;unfold Pa.step;rw[if_neg dc,if_neg (by simp[J,R]),if_neg U,if_pos h,if_neg dc];rfl
theorem yj {s:List UInt8} (h:Tl.dR s=true):Pa.parent (eG s)=([],s,0):=by unfold Pa.parent;rw[qR h];rfl
end
namespace Co
open Go.RowKit
open EtW (dx)
open Et (E)
attribute [local go_sem] Oper.semAt_some
theorem GJ {P:Program} {w:World} {g t:Nat} {fn:Func} {tmps:Array Value} {a b e:Nat} {v u:Value} (cs:List Value) (d:TypeDesc) (hf:fn.results=#[.tmp e,.cell a t,.tmp b]) (ha:tmps.getD a undef=pt g 0) (hc:w.rangeAt g 0 cs)
 (hu:P.underlying t=some d) (hd:d.isRow=true) (hi: (P.info? t).map (·.size)=some cs.length) (hb:tmps.getD b undef=v) (he:tmps.getD e undef=u):
 (results fn tmps).run P w=.ok (.tuple #[u,.agg cs.toArray,v]) w:=by
 have I:=run_loadVar_mid (P:=P) w g 0 t cs d hc hu hd hi;rw[Array.getD_eq_getD_getElem?]at ha hb he;unfold results;rw[hf];simp[ha,hb,I,he,asAddr]
structure dw (w:World) (c:C) (fs:List Fi) (L:List E) (g t:Nat) (o:Option (Int×Int)):Prop where
 du:bD w c fs
 yU:ak w g 67 [pt c.g 0,pt t 0]
 mN:ak w t 139 (Tb.eP o)
 og:c.own g=0
 ot:c.own t=0
 iN:Lays c
 dir:∃f,fs[0]? =some f/\mB f L
section
variable {w w' w'':World} {c c' c'':C} {fs:List Fi} {f:Fi} {L L':List E} {g t:Nat} {o:Option (Int×Int)}
theorem dw.x0 (h:dw w c fs L g t o):w.cell? (ae g 0)=some (pt c.g 0):=h.yU.cell 0
theorem dw.x1 (h:dw w c fs L g t o):w.cell? (ae g 1)=some (pt t 0):=h.yU.cell 1
theorem dw.below (h:dw w c fs L g t o) (hb:Bw w w'):dw w' c fs L g t o:=⟨h.du.below hb,h.yU.ext hb,h.mN.ext hb,h.og,h.ot,h.iN,h.dir⟩
theorem Lays.p_ (h:Lays c) (T:List Value):Lays {c with av:=T}:=⟨h.g1,h.g2,h.g3,h.g4,h.Nt,h.NB,h.chain,h.tB,h.aU⟩
theorem dw.seen (h:dw w c fs L g t o) (hs:Seen w c fs w'):∃c',(∃T,c'={c with av:=T}/\nj c.av T)/\dw w' c' fs L g t o/\af (· =c.g) w w':=by have I:=(hs.own h.yU.lt h.og).trans h.yU;have J:=(hs.own h.mN.lt h.ot).trans h.mN;obtain⟨c',⟨T,rfl,R⟩,hC,hS⟩:=hs;exact⟨_,⟨T,rfl,R⟩,⟨hC,I,J,h.og,h.ot,h.iN.p_ T,h.dir⟩,hS⟩
theorem lS (h:dw w c fs L g t o) (s:List UInt8) (hs:Tl.dR s=true) (hz:Et.bj L s=0):
 Calls prog 23 #[pt g 0,.string ⟨(eG s).toArray⟩] w (Ju w c fs (Et.dN L s) 0):=by
 have hl:=(Tl.e_ s).1 hs;have HP:=ja (PaW.rC (eG s));rw[qR hs]at HP;obtain⟨f,hf,hD⟩:=h.dir;have H:=ja h;have HF:=ja hf;have HD:=ja hD;have HZ:=ja hz;have U: (eG s).length<=1000000:=by unfold eG;rw[List.length_cons];omega
 have j:s.length<=100000:=by omega
 clear h hf hD hz hl;generalize(⟨(eG s).toArray⟩:ByteArray)=S at*;go_enter func23,ntmps23;go_upto_region 1 with fail
 generalize hW:w.alloc (.cells _ 70)=w0;have k4:ak w0 w.heap.size 70 [.string ⟨#[]⟩,i6 0,i6 0]:=by rw[<-hW];exact ak.new w _ _
 have b0:Bw w w0:=by rw[<-hW];exact bh.alloc lh _
 clear hW;obtain⟨q,hq⟩:=ex w.heap.size;rw[hq]at k4|-;have HO:=ja (show c.own q=0/\w.heap.size<=q from⟨H.a.du.hi q om,by omega⟩);have K:=ja k4;have B:=ja b0;clear k4 b0 hq;go_wp2_with fail
 refine(HP.a w0 U).mono ?_;rintro e w1 ⟨u,rfl,R,b1⟩;obtain⟨A,k,rfl,_,_,hE⟩:=R.open_;obtain⟨b,off,rfl,A0,I⟩:=hE 0 Nat.zero_lt_one;have B1:=ja (B.a.trans (b1.mono B.a.size));have K1:=ja (K.a.ext b1);have x0:=(H.a.below B1.a).x0;have A':=ja (show w1.cell? (ae b off)=some (.string ⟨s.toArray⟩)from I);clear hE I R b1;go_wp2_with fail
 refine(Bj (H.a.du.below B1.a) H.a.iN HF.a HD.a s j HZ.a b off k A'.a).mono ?_;rintro e w2 ⟨rfl,hX⟩;have HX:=ja (hX.behind B1.a);have J:=ja (show ak w2 q _ _ from(hX.own K1.a.lt HO.a.1).trans K1.a);have c0:=J.a.cell 0;have c1:=J.a.cell 1;have c2:=J.a.cell 2;have f0:=J.a.frozen;clear hX x0;obtain⟨y,hy⟩:=ex (Et.dN L s);have HY:=ja hy;rw[hy];clear hy;unfold dx;go_wp2;have z4:=((J.a.aC 0 (.string ⟨y.n.toArray⟩)).aC 1 (i6 y.i)).aC 2 (i6 y.t);have tz:=((af.setCell w2 q 0 (.string ⟨y.n.toArray⟩)).trans (af.setCell _ q 1 (i6 y.i)) (λ_ e=>.inl e)).trans (af.setCell _ q 2 (i6 y.t)) (λ_ e=>.inl e);refine bodyPost_ret (v:=.tuple #[dx y,i6 0]) (bG [.string ⟨y.n.toArray⟩,i6 y.i,i6 y.t] _ results23 rfl z4.range underlying70 rfl kj rfl) rfl ?_;exact⟨by rw[HY.a],HX.a.store tz HO.a.2 HO.a.1 J.a (Small.of dc rfl) dc H.a.iN⟩
theorem nu (h:dw w c fs L g t o) (s:List UInt8) (hs:Tl.dR s=true):
 Calls prog 84 #[pt g 0,.string ⟨(eG s).toArray⟩] w λe w'=>e=.returned (.tuple #[i6 1,.string ⟨s.toArray⟩,i6 0])/\Bw w w':=by
 have hl:=(Tl.e_ s).1 hs;have U:=ja (PaW.yp (eG s));rw[yj hs]at U;have H:=ja h;have j: (eG s).length<=1000000:=by unfold eG;rw[List.length_cons];omega
 clear h hl;dsimp only at U;generalize(⟨(eG s).toArray⟩:ByteArray)=S at*;generalize(⟨s.toArray⟩:ByteArray)=T at*;go_enter func84,ntmps84;go_wp2_with fail
 refine(U.a w j).mono ?_;rintro e w1 ⟨u,rfl,I,b1⟩;obtain⟨A,k,rfl,_,_,_⟩:=I.open_;have J:=ja b1;have x0:=(H.a.below J.a).x0;clear I b1;rw[show((0:Nat):Int)=0 from rfl];go_wp2_with fail
 refine(BX (H.a.du.below J.a) A k).mono ?_;rintro e R ⟨rfl,b2⟩;have B2:=ja (J.a.trans (b2.mono J.a.size));clear b2 x0;unfold dx;go_upto_region 5 with fail
 have kq:=ak.new R 70 #[.string ⟨#[]⟩,i6 1,i6 2];have bq:=(Below.refl R.heap.size R).alloc lh (.cells #[.string ⟨#[]⟩,i6 1,i6 2] 70);generalize R.alloc (.cells #[.string ⟨#[]⟩,i6 1,i6 2] 70)=w3 at*;have B3:=ja (B2.a.trans (bq.mono B2.a.size));have q1:=kq.cell 1;have q2:=kq.cell 2;clear kq bq;go_wp2;go_ret3;exact⟨rfl,B3.a⟩
def Lp (w:World) (c:C) (fs:List Fi) (s:List UInt8) (z:Int) (e:Ending) (w':World):Prop:=(z=6->e=.returned (.tuple #[i6 1,.string ⟨s.toArray⟩,i6 0]))/\(z=0->e=.returned (.tuple #[i6 0,.string ⟨#[]⟩,i6 7]))/\Seen w c fs w'
theorem lq (h:dw w c fs L g t o) (s:List UInt8) (hs:Tl.dR s=true) (hz:Et.bj L s=0\/Et.bj L s=6):
 Calls prog 37 #[pt g 0,.string ⟨(eG s).toArray⟩] w (Lp w c fs s (Et.bj L s)):=by
 have hl:=(Tl.e_ s).1 hs;have HP:=ja (nu h s hs);obtain⟨f,hf,hD⟩:=h.dir;have H:=ja h;have HF:=ja hf;have HD:=ja hD;have R:s.length<=100000:=by omega
 clear h hf hD hl;generalize(⟨(eG s).toArray⟩:ByteArray)=S at*;go_enter func37,ntmps37;go_wp2_with fail
 refine HP.a.mono ?_;rintro e w1 ⟨rfl,b1⟩;have U:=ja b1;have x0:=(H.a.below U.a).x0;clear b1;go_wp2_with fail
 refine(mE (H.a.du.below U.a) H.a.iN HF.a HD.a s R).mono ?_;rintro e j ⟨rfl,hX⟩;have HX:=ja (hX.behind U.a);clear hX x0;obtain⟨z,I⟩:=ex (Et.bj L s);have HZ:=ja I;rw[I]at hz|-;clear I;generalize Et.dN L s=y;unfold dx;go_upto_region 5 with fail
 have bq:=(Below.refl j.heap.size j).alloc lh (.cells #[.string ⟨y.n.toArray⟩,i6 y.i,i6 y.t] 70);generalize j.alloc (.cells #[.string ⟨y.n.toArray⟩,i6 y.i,i6 y.t] 70)=w3 at*;have J:=ja (HX.a.below bq);clear bq;rcases hz with rfl|rfl
 ·go_wp2;go_ret3;show Lp _ _ _ _ (Et.bj L s) _ _;rw[HZ.a];exact⟨λe=>absurd e dc,λ_=>rfl,J.a⟩
 ·go_wp2;go_ret3;show Lp _ _ _ _ (Et.bj L s) _ _;rw[HZ.a];exact⟨λ_=>rfl,λe=>absurd e dc,J.a⟩
def N8 (w:World) (c:C) (fs:List Fi) (y:E) (e:Ending) (w':World):Prop:=e=.returned (.tuple #[i6 1,dx y,i6 0])/\Seen w c fs w'
theorem Bp (h:dw w c fs L g t o) (s:List UInt8) (hs:Tl.dR s=true) (hz:Et.bj L s=0):
 Calls prog 42 #[pt g 0,.string ⟨(eG s).toArray⟩] w (N8 w c fs (Et.dN L s)):=by
 have hl:=(Tl.e_ s).1 hs;have HP:=ja (λ(x:World) (h:dw x c fs L g t o)=>nu h s hs);obtain⟨f,hf,hD⟩:=h.dir;have H:=ja h;have HF:=ja hf;have HD:=ja hD;have HZ:=ja hz;have R:s.length<=100000:=by omega
 clear h hf hD hl hz;generalize(⟨(eG s).toArray⟩:ByteArray)=S at*;go_enter func42,ntmps42;go_upto_region 1 with fail
 generalize U:w.alloc (.cells _ 70)=w0;have j:ak w0 w.heap.size 70 [.string ⟨#[]⟩,i6 0,i6 0]:=by rw[<-U];exact ak.new w _ _
 have b0:Bw w w0:=by rw[<-U];exact bh.alloc lh _
 clear U;obtain⟨q,hq⟩:=ex w.heap.size;rw[hq]at j|-;have HO:=ja (show c.own q=0/\w.heap.size<=q from⟨H.a.du.hi q om,by omega⟩);have K:=ja j;have B:=ja b0;clear j b0 hq;go_wp2_with fail
 refine(HP.a w0 (H.a.below B.a)).mono ?_;rintro e w1 ⟨rfl,b1⟩;have B1:=ja (B.a.trans (b1.mono B.a.size));have K1:=ja (K.a.ext b1);have x0:=(H.a.below B1.a).x0;clear b1;go_wp2_with fail
 refine(mE (H.a.du.below B1.a) H.a.iN HF.a HD.a s R).mono ?_;rintro e J ⟨rfl,hX⟩;have HX:=ja (hX.behind B1.a);have K2:=ja (show ak J q _ _ from(hX.own K1.a.lt HO.a.1).trans K1.a);clear hX x0;rw[HZ.a];obtain⟨y,hy⟩:=ex (Et.dN L s);have HY:=ja hy;rw[hy];clear hy;unfold dx;go_upto_region 5 with fail
 have kq:=ak.new J 70 #[.string ⟨y.n.toArray⟩,i6 y.i,i6 y.t];have bq:=(Below.refl J.heap.size J).alloc lh (.cells #[.string ⟨y.n.toArray⟩,i6 y.i,i6 y.t] 70);generalize J.alloc (.cells #[.string ⟨y.n.toArray⟩,i6 y.i,i6 y.t] 70)=w3 at*;have A':=ja (HX.a.below bq);have I:=ja (K2.a.ext bq);have KQ:=ja kq;clear bq kq;go_upto_region 7 with fail
 have q0:=KQ.a.cell 0;have q1:=KQ.a.cell 1;have q2:=KQ.a.cell 2;have c0:=I.a.cell 0;have c1:=I.a.cell 1;have c2:=I.a.cell 2;have f0:=I.a.frozen;go_region;go_wp2;have z4:=(((I.a.aC 0 (.string ⟨y.n.toArray⟩)).aC 1 (i6 y.i)).aC 2 (i6 y.t)).drew;have tz:=(((af.setCell w3 q 0 (.string ⟨y.n.toArray⟩)).trans (af.setCell _ q 1 (i6 y.i)) (λ_ e=>.inl e)).trans (af.setCell _ q 2 (i6 y.t)) (λ_ e=>.inl e)).trans (af.aj (X:=(· =q)) bh.drew) (λ_ e=>.inl e);refine bodyPost_ret (v:=.tuple #[i6 1,dx y,i6 0]) (GJ [.string ⟨y.n.toArray⟩,i6 y.i,i6 y.t] _ results42 rfl z4.range underlying70 rfl kj rfl rfl) rfl ?_;exact⟨by rw[HY.a],A'.a.store tz HO.a.2 HO.a.1 I.a (Small.of dc rfl) dc H.a.iN⟩
end
end Co
namespace Co
open Go.RowKit
def z3:List Value:=[i6 0,.int .u32 0,i6 0]
def JZ:List Value:=z3++z3++z3++z3++z3++z3++z3++z3++z3++z3++z3++z3++z3++z3++z3++z3++z3++z3++z3++z3++z3++z3++z3++z3++z3++z3++z3++z3++z3++z3++z3++z3++z3++z3++z3++z3++z3++z3++z3++z3
def z8:List Value:=[i6 0,i6 0,i6 0,i6 0,i6 0,i6 0,i6 0,i6 0]
def D8:List Value:=z8++z8++z8++z8++z8
def Od:List Value:=.map none::(JZ++(D8++[.map none,.map none]))
theorem pE (c:C) (h:c.eI): (prog.info? 103).map (·.size)=some c.now.length:=by rw[cB h];kernel_rfl
section
variable {w w':World} {c:C} {fs:List Fi}
theorem AG (h1:∀v∈c.aF,v.oneCell'=true) (h2:∀v∈c.av,v.oneCell'=true):∀v∈c.now,v.oneCell'=true:=by
 intro v I;unfold C.now at I;simp only[List.mem_cons,List.mem_append,List.not_mem_nil,or_false]at I;rcases I with rfl|h|h|rfl|rfl
 ·rfl
 ·exact h1 v h
 ·exact h2 v h
 ·rfl
 ·rfl
theorem CV:c.now[0]? =some (.map (some c.files)):=rfl
theorem Dl (h:c.eI):c.now[161]? =some (.map (some c.gone)):=(jX h 161 dc).symm.trans (jq h)
theorem u9 (h:c.eI):c.now[162]? =some (.map (some c.aB)):=(jX h 162 dc).symm.trans (eF h)
structure NS (w:World) (c:C) (b0 b1 b2 b3:Nat):Prop where
 k0:ak w b0 4 [.bool true]
 k1:ak w b1 48 [pt c.g 0]
 k2:ak w b2 3 [i6 c.k.aT]
 k3:ak w b3 103 c.now
def Jj (w:World) (c:C) (fs:List Fi) (e:Ending) (w':World):Prop:=
 ∃c' b0 b1 b2 b3,e=.returned (.func (.func 121) #[] #[pt b0 0,pt b1 0,pt b2 0,pt b3 0])/\
  bD w' c' fs/\Step w c w' c'/\NS w' c b0 b1 b2 b3/\(c'.own b0=0/\c'.own b1=0/\c'.own b2=0/\c'.own b3=0)/\(af (· =c.g) w w'/\w.heap.size<=b0)/\c'={c with files:=c'.files,gone:=c'.gone,aB:=c'.aB,own:=c'.own,age:=c.age+1}
theorem Fp (H:bD w c fs) {z0 z3:World} {g1 gv0 gv1 l0 l1 l2:Nat} (D0:Bw w z0) (T3:af (· =c.g) z0 z3) (KC3:ak z3 c.g 110 (C.cells {c with files:=l0,gone:=l1,aB:=l2}))
 (M0:ay z3 prog 3 l0 (kC fs)) (M1:ay z3 prog 3 l1 c.b_) (M2:ay z3 prog 3 l2 c.cL) (e0:z0.heap.size<=l0) (e1:l0<l1) (e2:l1<l2) (e3:l2<z3.heap.size)
 (K1:ak z0 g1 48 [pt c.g 0]) (K3:ak z0 gv0 103 c.now) (K4:ak z0 gv1 3 [i6 c.k.aT]) (q1:w.heap.size<=g1) (q3:w.heap.size<=gv0) (q4:w.heap.size<=gv1):
 Jj w c fs (.returned (.func (.func 121) #[] #[pt z3.heap.size 0,pt g1 0,pt gv1 0,pt gv0 0]))
  ((z3.setCell (ae c.g 194) (i6 (c.age+1))).alloc (.cells #[.bool true] 4)):=by
 have A':=H.core.lt;have A2:=D0.size;have l3:=K3.lt;have l4:=K4.lt;have l5:=K1.lt;have hL:C.eI {c with files:=l0,gone:=l1,aB:=l2}:=⟨H.len.aF,H.len.av,H.len.maps,H.len.used,H.len.dH,H.len.dG⟩;have o:af (· =c.g) z0 ((z3.setCell (ae c.g 194) (i6 (c.age+1))).alloc (.cells #[.bool true] 4)):=(T3.trans (af.setCell z3 c.g 194 _) (λ_ h=>.inl h)).trans (af.aj (bh.alloc lh _)) (λ_ h=>.inl h);have J:=(af.aj (X:=(· =c.g)) D0).trans o (λ_ h=>.inl h);have hs:z3.heap.size<((z3.setCell (ae c.g 194) (i6 (c.age+1))).alloc (.cells #[.bool true] 4)).heap.size:=by simp
 have A0:∀l,z0.heap.size<=l->l≠c.g:=λl hl e=>by omega
 have tr:∀{l:Nat} {e:KV},ay z3 prog 3 l e->z0.heap.size<=l->ay ((z3.setCell (ae c.g 194) (i6 (c.age+1))).alloc (.cells #[.bool true] 4)) prog 3 l e:=λh hl=>(ay.setCell h (a:=ae c.g 194) (A0 _ hl) _).alloc _;have A1:ak ((z3.setCell (ae c.g 194) (i6 (c.age+1))).alloc (.cells #[.bool true] 4)) z3.heap.size 4 [.bool true]:=by have:=ak.new (z3.setCell (ae c.g 194) (i6 (c.age+1))) 4 #[.bool true];rw[show(z3.setCell (ae c.g 194) (i6 (c.age+1))).heap.size=z3.heap.size from by simp]at this;exact this
 have R:ak ((z3.setCell (ae c.g 194) (i6 (c.age+1))).alloc (.cells #[.bool true] 4)) c.g 110 (C.cells {c with files:=l0,gone:=l1,aB:=l2,age:=c.age+1}):=by have k:=(KC3.aC 194 (i6 (c.age+1))).alloc (.cells #[.bool true] 4);rw[te hL]at k;exact k
 obtain⟨own,I⟩:∃own:Nat->Nat,own=λb=>if b<w.heap.size then c.own b else if b=l0 then 2 else if b=l1 then 3 else if b=l2 then 4 else 0:=⟨_,rfl⟩
 have U:∀b,b<w.heap.size->own b=c.own b:=λb hb=>by rw[I];exact if_pos hb
 have j:∀b,w.heap.size<=b->b≠l0->b≠l1->b≠l2->own b=0:=λb hb h0 h1 h2=>by rw[I];dsimp only;rw[if_neg om,if_neg h0,if_neg h1,if_neg h2]
 generalize(z3.setCell (ae c.g 194) (i6 (c.age+1))).alloc (.cells #[.bool true] 4)=w' at*;refine⟨{c with files:=l0,gone:=l1,aB:=l2,age:=c.age+1,own:=own},z3.heap.size,g1,gv1,gv0,rfl,?_,⟨J.mono λb e=>by subst e;rw[H.o1];decide,U⟩,⟨A1,o.blk K1 om,o.blk K4 om,o.blk K3 om⟩,⟨j _ om om om om,j _ q1 om om om,j _ q4 om om om,j _ q3 om om om⟩,⟨J,by omega⟩,rfl⟩
 exact{
  core:=R
  len:=⟨H.len.aF,H.len.av,H.len.maps,H.len.used,H.len.dH,H.len.dG⟩
  files:=tr M0 e0
  gone:=tr M1 (show z0.heap.size<=l1 by omega)
  aB:=tr M2 (show z0.heap.size<=l2 by omega)
  bad:=J.map H.bad λe=>absurd (e▸H.ob) (by rw[H.o1];decide)
  o1:=(U _ A').trans H.o1
  o2:=by show own l0=2;rw[I];dsimp only;rw[if_neg om,if_pos rfl]
  o3:=by show own l1=3;rw[I];dsimp only;rw[if_neg om,if_neg om,if_pos rfl]
  o4:=by show own l2=4;rw[I];dsimp only;rw[if_neg om,if_neg om,if_neg om,if_pos rfl]
  ob:=(U _ H.bad.lt).trans H.ob
  hi:=λb hb=>j b (oa T3.size) om om om
  fi:=λi f hf=>(H.fi i f hf).bU J (λb e _=>by subst e;rw[H.o1];exact⟨by decide,by omega⟩) U
  aU:=⟨(J.fe H.aU.1 lh λg hg e=>absurd (H.aU.2 g hg).1 (by rw[e,H.o1];decide)).more J.size,λb hb2=>⟨(U b (H.aU.2 b hb2).2).trans (H.aU.2 b hb2).1,Nat.lt_of_lt_of_le (H.aU.2 b hb2).2 J.size⟩⟩
  gl:=H.gl.bU J (λb e _=>by subst e;rw[H.o1];decide) U
  gM:=H.gM}
theorem FD (h:bD w c fs) (ha0:0<=c.age) (ha1:c.age<=1000000) (hs1:∀v∈c.aF,v.oneCell'=true) (hs2:∀v∈c.av,v.oneCell'=true):
 Calls prog 65 #[pt c.g 0] w (Jj w c fs):=by
 have H:=ja h;have HN:=ja (AG hs1 hs2);clear h hs1 hs2;go_enter func65,ntmps65;go_upto_region 1 with fail
 generalize hW:w.alloc (.cells _ 48)=w0;have k1:ak w0 w.heap.size 48 [pt c.g 0]:=by rw[<-hW];exact ak.new w _ _
 have s1:w0.heap.size=w.heap.size+1:=by rw[<-hW];simp
 have d0:Bw w w0:=by rw[<-hW];exact bh.alloc lh _
 clear hW;obtain⟨g1,Ab⟩:=ex w.heap.size;rw[Ab]at k1|-;have H0:=H.a.below d0;refine fu 12 [pt c.g 0,pt c.g 0,pt c.g 6,.agg c.now.toArray,pt c.g 0,pt c.g 0,pt c.g 195,i6 c.k.aT,undef,undef,undef,undef] [⟨8,10,3,9,103,Od,c.now,.agg (c.now).toArray⟩,⟨9,11,4,13,3,[i6 0],[i6 c.k.aT],i6 c.k.aT⟩] kj rfl kj rfl ?_ ?_ ?_
 ·intro xv Ae;simp only[List.mem_cons,List.not_mem_nil,or_false]at Ae;rcases Ae with rfl|rfl
  ·refine⟨by kernel_rfl,by kernel_rfl,by rw[cB H0.len];rfl,by kernel_rfl,⟨3,by kernel_rfl,by simp,rfl⟩,?_,?_⟩
   ·intro a x K h;refine pj ?_;go_simp;exact h
   ·intro a x g K h1 h2 h3 h;refine pj ?_;refine wp_store_mid 103 (.tmp 3) (.tmp 9) rfl g 0 (c.now).toArray h1 h2 (by rw[List.size_toArray];exact h3) (pE c H0.len) (all_oneCell_toArray HN.a) ?_;exact h
  ·refine⟨by kernel_rfl,by kernel_rfl,rfl,by kernel_rfl,⟨7,by kernel_rfl,by simp,rfl⟩,?_,?_⟩
   ·intro a x K h;refine pj ?_;go_simp;exact h
   ·intro a x g K h1 h2 h3 h;refine pj ?_;have q1:=h3 0 (Nat.le_refl 1);obtain⟨u1,q2⟩:=Option.isSome_iff_exists.1 q1.1;have q3:=q1.2;clear q1;go_simp;exact h
 ·refine⟨vx [] [1] λx hG=>(k1.ext hG).cell 0,vz [0,6] [],vz [1,7] [],?_,vx [] [1] λx hG=>(k1.ext hG).cell 0,vz [4,10] [],vz [5,11] [],vx [6,12] [] λx hG=>((H0.core.ext hG).cell 195).trans (jA H0.len),vn,vn,vn,vn,trivial⟩
  ·intro _ a x hG hd hs K hK;have h8:a.tmps.getD 8 undef=pt c.g 6:=hd 2 8 kj sj;clear hd hs;refine pj ?_;refine wp_load_mid 103 (.tmp 8) rfl c.g 6 h8 c.now _ ((H0.core.ext hG).bF 6 _ (by rw[cB H0.len];exact Me H0.len)) underlying103 rfl (pE c H0.len) ?_;exact hK _ _ (λ_=>rfl) hG bh
 ·intro x hG;(iterate 8 rintro _ rfl);rintro _ ⟨U,rfl,Ah,A8⟩ _ ⟨Ao,rfl,Aq,A9⟩;replace A8:ak x U 103 (c.now):=A8;replace A9:ak x Ao 3 ([i6 c.k.aT]):=A9;simp only[ap];(try simp only[Exit.then]);(go_upto_region 2 with fail);generalize x=z0 at*;have HH:=ja (H0.below hG);have K3:=ja A8;have K4:=ja A9;have K1:=ja (k1.ext hG);have Ar:=ja (H0.below hG).core;have I:=H0.len;have D0:=ja (d0.trans (hG.mono d0.size));have HG:=ja Ab;have G1:=ja Ah;have G2:=ja Aq;have S1:=ja s1;have T0:=af.refl (· =c.g) z0;clear hG A8 A9 k1 H0 d0 s1 Ab Ah Aq;have A3:U≠c.g:=λe=>(by have:=H.a.core.lt;have:=HG.a;have:=G1.a;have:=S1.a;omega);have BO:Ao≠c.g:=λe=>(by have:=H.a.core.lt;have:=HG.a;have:=G2.a;have:=S1.a;omega);have A2:g1≠c.g:=λe=>(by have:=H.a.core.lt;have:=HG.a;omega);have A':z0.cell? (ae U 0)=some (.map (some c.files)):=((T0.blk K3.a A3).cell 0).trans (CV);have o:z0.cell? (ae g1 0)=some (pt c.g 0):=(T0.blk K1.a A2).cell 0;have hm:ay z0 prog 3 c.files (kC fs):=T0.map HH.a.files (λe=>absurd (e▸HH.a.o2) (by rw[HH.a.o1];decide));have J:g1<z0.heap.size:=(T0.blk K1.a A2).lt;have R:U<z0.heap.size:=(T0.blk K3.a A3).lt;have A0:Bw z0 z0.drew:=bh.drew;refine aQ 8 7 [(ez (pt c.g 0)),(ez (pt U 0)),(ez (.map (some c.files))),(λu q=>∃b,u=.map (some b)/\z0.heap.size<=b/\ay q prog 3 b (kC fs)),(ez (pt c.g 0)),(ez (pt c.g 6)),(ez (pt c.g 6))]
   (λq=>Bw z0 q) kj rfl dc kj kj ?_ ?_ ?_ ?_
  ·exact A0
  ·exact⟨ah _,ah _,ah _,λ_ _ _ ⟨b,h1,h2,h3⟩ hb=>⟨b,h1,h2,h3.ext hb⟩,ah _,ah _,ah _,trivial⟩
  ·refine⟨rx [] [1] λx hG=>cl hG J o,rz [] [3],rx [1,15] [] λx hG=>cl hG R A',?_,rz [0,14] [],rz [4,18] [],rz [5,19] [],trivial⟩
   ·intro a x hG hd hs K hK;have BQ:_=_:=hd 2 16 kj;clear hd hs;refine pj ?_;go_simp;refine(qt (hm.ext hG)).mono ?_;rintro e w' ⟨b,rfl,A4,As,A5,A1⟩;exact hK _ _ ⟨b,rfl,by rw[A4.out];exact hG.size,A5⟩ (hG.trans (A1.mono hG.size)) A1
  ·intro x hG;rintro _ rfl _ rfl _ rfl v3 A6 _ rfl _ rfl _ rfl;simp only[ap];rw[show List.range' 7 (8-7)=[7]from rfl,wpOps_cons];generalize x=y0 at*;obtain⟨l0,rfl,L0,m0⟩:=A6;have AI:=Ar.a.ext hG;have xc:=(AI.cell 6).trans (cg I);have xf:=AI.frozen 6;refine pj ?_;go_simp;unfold wpOps;simp only[Exit.then];have j:l0≠c.g:=λe=>(by have:=Ar.a.lt;rw[e]at L0;exact absurd L0 (by show¬_<=_;have:c.g<z0.heap.size:=this;omega));have T1:=(T0.trans (af.aj (X:=(· =c.g)) hG) (λ_ h=>.inl h)).trans (af.setCell y0 c.g 6 (.map (some l0))) (λ_ h=>.inl h);have kc:=AI.aC 6 (.map (some l0));have mm:=ay.setCell m0 (a:=ae c.g 6) j (.map (some l0));have sz:y0.heap.size<=(y0.setCell (ae c.g 6) (.map (some l0))).heap.size:=(by simp);rw[Cf I]at kc;have Au:C.eI {c with files:=l0}:=⟨I.aF,I.av,I.maps,I.used,I.dH,I.dG⟩;generalize y0.setCell (ae c.g 6) (.map (some l0))=z1 at*;have Av:=ja kc;have M0:=ja mm;have Aw:=ja j;have B1:=ja (show l0<z1.heap.size from mm.lt);have B2:=ja L0;clear hG A0 A' o hm J R xc xf AI kc mm m0 sz j L0;have A':z1.cell? (ae U 161)=some (.map (some c.gone)):=((T1.blk K3.a A3).cell 161).trans (Dl HH.a.len);have o:z1.cell? (ae g1 0)=some (pt c.g 0):=(T1.blk K1.a A2).cell 0;have hm:ay z1 prog 3 c.gone (c.b_):=T1.map HH.a.gone (λe=>absurd (e▸HH.a.o3) (by rw[HH.a.o1];decide));have J:g1<z1.heap.size:=(T1.blk K1.a A2).lt;have R:U<z1.heap.size:=(T1.blk K3.a A3).lt;have A0:Bw z1 z1.drew:=bh.drew;(go_upto_region 3 with fail);refine aQ 8 7 [(ez (pt c.g 0)),(ez (pt U 161)),(ez (.map (some c.gone))),(λu q=>∃b,u=.map (some b)/\z1.heap.size<=b/\ay q prog 3 b (c.b_)),(ez (pt c.g 0)),(ez (pt c.g 6)),(ez (pt c.g 167))]
    (λq=>Bw z1 q) kj rfl dc kj kj ?_ ?_ ?_ ?_
   ·exact A0
   ·exact⟨ah _,ah _,ah _,λ_ _ _ ⟨b,h1,h2,h3⟩ hb=>⟨b,h1,h2,h3.ext hb⟩,ah _,ah _,ah _,trivial⟩
   ·refine⟨rx [] [1] λx hG=>cl hG J o,rz [] [3],rx [1,22] [] λx hG=>cl hG R A',?_,rz [0,21] [],rz [4,25] [],rz [5,26] [],trivial⟩
    ·intro a x hG hd hs K hK;have Bg:_=_:=hd 2 23 kj;clear hd hs;refine pj ?_;go_simp;refine(dK (hm.ext hG)).mono ?_;rintro e w' ⟨b,rfl,A4,As,A5,A1⟩;exact hK _ _ ⟨b,rfl,by rw[A4.out];exact hG.size,A5⟩ (hG.trans (A1.mono hG.size)) A1
   ·intro x hG;rintro _ rfl _ rfl _ rfl v3 A6 _ rfl _ rfl _ rfl;simp only[ap];rw[show List.range' 7 (8-7)=[7]from rfl,wpOps_cons];generalize x=y1 at*;obtain⟨l1,rfl,L1,m1⟩:=A6;have AR:=Av.a.ext hG;have xc:=(AR.cell 167).trans (jq Au);have xf:=AR.frozen 167;refine pj ?_;go_simp;unfold wpOps;simp only[Exit.then];have j:l1≠c.g:=λe=>(by have:=Av.a.lt;rw[e]at L1;exact absurd L1 (by show¬_<=_;have:c.g<z1.heap.size:=this;omega));have T2:=(T1.trans (af.aj (X:=(· =c.g)) hG) (λ_ h=>.inl h)).trans (af.setCell y1 c.g 167 (.map (some l1))) (λ_ h=>.inl h);have kc:=AR.aC 167 (.map (some l1));have mm:=ay.setCell m1 (a:=ae c.g 167) j (.map (some l1));have sz:y1.heap.size<=(y1.setCell (ae c.g 167) (.map (some l1))).heap.size:=(by simp);have A7:=(((af.aj (X:=(· =c.g)) hG).trans (af.setCell y1 c.g 167 (.map (some l1))) (λ_ h=>.inl h))).map M0.a Aw.a;rw[FX Au]at kc;have Ax:C.eI {c with files:=l0,gone:=l1}:=⟨I.aF,I.av,I.maps,I.used,I.dH,I.dG⟩;generalize y1.setCell (ae c.g 167) (.map (some l1))=z2 at*;have B':=ja kc;have M1:=ja mm;have B3:=ja j;have B4:=ja (show l1<z2.heap.size from mm.lt);have B5:=ja L1;clear M0;have M0:=ja A7;clear A7;clear hG A0 A' o hm J R xc xf AR kc mm m1 sz j L1;have A':z2.cell? (ae U 162)=some (.map (some c.aB)):=((T2.blk K3.a A3).cell 162).trans (u9 HH.a.len);have o:z2.cell? (ae g1 0)=some (pt c.g 0):=(T2.blk K1.a A2).cell 0;have hm:ay z2 prog 3 c.aB (c.cL):=T2.map HH.a.aB (λe=>absurd (e▸HH.a.o4) (by rw[HH.a.o1];decide));have J:g1<z2.heap.size:=(T2.blk K1.a A2).lt;have R:U<z2.heap.size:=(T2.blk K3.a A3).lt;have A0:Bw z2 z2.drew:=bh.drew;(go_upto_region 4 with fail);refine aQ 8 7 [(ez (pt c.g 0)),(ez (pt U 162)),(ez (.map (some c.aB))),(λu q=>∃b,u=.map (some b)/\z2.heap.size<=b/\ay q prog 3 b (c.cL)),(ez (pt c.g 0)),(ez (pt c.g 6)),(ez (pt c.g 168))]
     (λq=>Bw z2 q) kj rfl dc kj kj ?_ ?_ ?_ ?_
    ·exact A0
    ·exact⟨ah _,ah _,ah _,λ_ _ _ ⟨b,h1,h2,h3⟩ hb=>⟨b,h1,h2,h3.ext hb⟩,ah _,ah _,ah _,trivial⟩
    ·refine⟨rx [] [1] λx hG=>cl hG J o,rz [] [3],rx [1,29] [] λx hG=>cl hG R A',?_,rz [0,28] [],rz [4,32] [],rz [5,33] [],trivial⟩
     ·intro a x hG hd hs K hK;have Bt:_=_:=hd 2 30 kj;clear hd hs;refine pj ?_;go_simp;refine(dK (hm.ext hG)).mono ?_;rintro e w' ⟨b,rfl,A4,As,A5,A1⟩;exact hK _ _ ⟨b,rfl,by rw[A4.out];exact hG.size,A5⟩ (hG.trans (A1.mono hG.size)) A1
    ·intro x hG;rintro _ rfl _ rfl _ rfl v3 A6 _ rfl _ rfl _ rfl;simp only[ap];rw[show List.range' 7 (8-7)=[7]from rfl,wpOps_cons];generalize x=y2 at*;obtain⟨l2,rfl,L2,m2⟩:=A6;have Aa:=B'.a.ext hG;have xc:=(Aa.cell 168).trans (eF Ax);have xf:=Aa.frozen 168;refine pj ?_;go_simp;unfold wpOps;simp only[Exit.then];have j:l2≠c.g:=λe=>(by have:=B'.a.lt;rw[e]at L2;exact absurd L2 (by show¬_<=_;have:c.g<z2.heap.size:=this;omega));have T3:=(T2.trans (af.aj (X:=(· =c.g)) hG) (λ_ h=>.inl h)).trans (af.setCell y2 c.g 168 (.map (some l2))) (λ_ h=>.inl h);have kc:=Aa.aC 168 (.map (some l2));have mm:=ay.setCell m2 (a:=ae c.g 168) j (.map (some l2));have sz:y2.heap.size<=(y2.setCell (ae c.g 168) (.map (some l2))).heap.size:=(by simp);have A7:=(((af.aj (X:=(· =c.g)) hG).trans (af.setCell y2 c.g 168 (.map (some l2))) (λ_ h=>.inl h))).map M0.a Aw.a;have B0:=(((af.aj (X:=(· =c.g)) hG).trans (af.setCell y2 c.g 168 (.map (some l2))) (λ_ h=>.inl h))).map M1.a B3.a;rw[vJ Ax]at kc;have B6:C.eI {c with files:=l0,gone:=l1,aB:=l2}:=⟨I.aF,I.av,I.maps,I.used,I.dH,I.dG⟩;generalize y2.setCell (ae c.g 168) (.map (some l2))=z3 at*;have Ad:=ja kc;have M2:=ja mm;have Bu:=ja j;have B7:=ja (show l2<z3.heap.size from mm.lt);have B8:=ja L2;clear M0;have M0:=ja A7;clear A7;clear M1;have M1:=ja B0;clear B0;clear hG A0 A' o hm J R xc xf Aa kc mm m2 sz j L2;have B9:z3.cell? (ae c.g 194)=some (i6 c.age):=(Ad.a.cell 194).trans (gF B6);have BB:=Ad.a.frozen 194;have o:z3.cell? (ae g1 0)=some (pt c.g 0):=(T3.blk K1.a A2).cell 0;have By:∀(fn:Fn) (first cap:Array Value) (w:World),(Instr.makeFunc fn first cap).run prog w=.ok (.func fn first cap) w:=λ_ _ _ _=>rfl;go_wp2;go_ret;have q0:=HG.a;have q1:=G1.a;have q2:=G2.a;have q3:=S1.a;have q4:=B2.a;have q5:=B5.a;have q6:=B8.a;have q7:=B1.a;have q8:=B4.a;have q9:=B7.a;exact Fp H.a D0.a T3 Ad.a M0.a M1.a M2.a q4 om om q9 K1.a K3.a K4.a om om om
end
end Co
end Go.Proofs.YtdhgejiacehpbaaGreatDoor
