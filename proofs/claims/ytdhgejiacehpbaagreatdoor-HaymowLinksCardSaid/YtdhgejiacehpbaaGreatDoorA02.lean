import Derived.Test.YtdhgejiacehpbaaGreatDoorA01
import Derived.Deep.MidRow
import Derived.Deep.DeepCutAuto
import Derived.Deep.RegionHeld3
import Derived.WalkSpells
import Derived.WalkLawsBesides
set_option maxRecDepth 100000
set_option maxHeartbeats 16000000
set_option linter.all false
namespace Go.Proofs.YtdhgejiacehpbaaGreatDoor
open Go.Proofs.Tryz
section
open Go.RowKit
def mS (cs:List Value) (o:Nat) (vs:List Value):List Value:=cs.take o++(vs++cs.drop (o+vs.length))
theorem GS (cs:List Value) (o:Nat):mS cs o []=cs:=by unfold mS;simp
theorem ur (cs:List Value) (o:Nat) (v:Value) (vs:List Value) (h:o+(vs.length+1)<=cs.length):mS (cs.set o v) (o+1) vs=mS cs o (v::vs):=by
 unfold mS;have ho:o<cs.length:=by omega
 have e1: (cs.set o v).take (o+1)=cs.take o++[v]:=by rw[List.take_succ_eq_append_getElem (by rw[List.length_set];exact ho),List.take_set_of_le (Nat.le_refl _),List.getElem_set_self]
 have e2: (cs.set o v).drop (o+1+vs.length)=cs.drop (o+1+vs.length):=List.drop_set_of_lt (by omega);rw[e1,e2,List.length_cons,List.append_assoc,show o+1+vs.length=o+(vs.length+1) by omega];rfl
theorem ck (cs vs:List Value) (h:vs.length=cs.length):mS cs 0 vs=vs:=by unfold mS;rw[List.take_zero,List.nil_append,Nat.zero_add,h,List.drop_length,List.append_nil]
section
variable {P:Program} {w w':World} {g:Nat} {t:TypeId} {cs:List Value}
theorem ak.range (h:ak w g t cs):w.rangeAt g 0 cs:=λj v hv=>by rw[Nat.zero_add,h.cell j];exact hv
theorem ak.bF (h:ak w g t cs) (o:Nat) (vs:List Value) (hv:vs=(cs.drop o).take vs.length):w.rangeAt g o vs:=λj v hj=>by
 rw[hv,List.getElem?_take]at hj;split at hj
 ·rw[List.getElem?_drop]at hj;rw[h.cell];exact hj
 ·cases hj
theorem ak.there (h:ak w g t cs) (o n:Nat) (hn:o+n<=cs.length):w.there g o n:=λj hj=>by refine⟨?_,h.frozen _⟩;rw[h.cell,List.getElem?_eq_getElem (by omega)];rfl
theorem ak.setCells (vs:List Value):∀{w:World} {cs:List Value} (o:Nat),ak w g t cs->o+vs.length<=cs.length->ak (w.setCells g o vs) g t (mS cs o vs):=by
 induction vs with
 |nil=>intro w cs o h _;rw[GS];exact h
 |cons v vs ih=>intro w cs o h hl;rw[List.length_cons]at hl;rw[<-ur cs o v vs hl];exact ih (o+1) (h.aC o v) (by rw[List.length_set];omega)
theorem fZ (vs:List Value):∀(w:World) (o:Nat),w.grownBy (w.setCells g o vs) (some g):=by
 induction vs with
 |nil=>intro w o;exact World.grownBy.refl w _
 |cons v vs ih=>intro w o;refine World.grownBy.trans ?_ (ih (w.setCell ⟨g,o,none⟩ v) (o+1));exact⟨rfl,rfl,rfl,by simp,λi hi hne=>Below.heap_setCell w _ v i (λe=>hne (by rw[e]))⟩
theorem aS {B:Nat} {a:World} (h:Below B a w) (hg:B<=g) (o:Nat) (vs:List Value):Below B a (w.setCells g o vs):=by
 induction vs generalizing w o with
 |nil=>exact h
 |cons v vs ih=>exact ih (h.setCell hg v) (o+1)
theorem aw {ops:Array Oper} {rest:List Oper} {op:Oper} {a:Act} {w:World} {Q:Exit->Act->World->Prop} (ty:TypeId) (x:Operand) (ho:op.op=.load ty x)
 (hw:Region.wanted op (yielded ops a.tmps)=true) (b o:Nat) (hx:a.eval x=.pointer (some ⟨b,o,none⟩)) (cs:List Value) (d:TypeDesc) (hc:w.rangeAt b o cs)
 (hu:P.underlying ty=some d) (hd:d.isRow=true) (hi: (P.info? ty).map (·.size)=some cs.length)
 (h:wpList P ops Q rest (a.put op.dst (.agg cs.toArray)) w):wpList P ops Q (op::rest) a w:=
 wpList_step λK hK=>by simp only[hw,if_true];exact wp_load_mid ty x ho b o hx cs d hc hu hd hi (hK _ _ h)
theorem bG {fn:Func} {tmps:Array Value} {a b:Nat} {v:Value} (cs:List Value) (d:TypeDesc) (hf:fn.results=#[.cell a t,.tmp b]) (ha:tmps.getD a undef=.pointer (some ⟨g,0,none⟩)) (hc:w.rangeAt g 0 cs)
 (hu:P.underlying t=some d) (hd:d.isRow=true) (hi: (P.info? t).map (·.size)=some cs.length) (hb:tmps.getD b undef=v):
 (results fn tmps).run P w=.ok (.tuple #[.agg cs.toArray,v]) w:=by
 have hl:=run_loadVar_mid (P:=P) w g 0 t cs d hc hu hd hi;rw[Array.getD_eq_getD_getElem?]at ha hb;unfold results;rw[hf];simp[ha,hb,hl,asAddr]
theorem cZ {fn:Func} {tmps:Array Value} {a:Nat} (cs:List Value) (d:TypeDesc) (hf:fn.results=#[.cell a t]) (ha:tmps.getD a undef=.pointer (some ⟨g,0,none⟩)) (hc:w.rangeAt g 0 cs)
 (hu:P.underlying t=some d) (hd:d.isRow=true) (hi: (P.info? t).map (·.size)=some cs.length):
 (results fn tmps).run P w=.ok (.agg cs.toArray) w:=by
 have hl:=run_loadVar_mid (P:=P) w g 0 t cs d hc hu hd hi;rw[Array.getD_eq_getD_getElem?]at ha;unfold results;rw[hf];simp[ha,hl,asAddr]
end
end
section
open Go.RowKit
structure CY where
 al:Nat
 st:Nat
 slot:Nat
 src:Nat
 t:TypeId
 z:List Value
 c:List Value
 v:Value
def Eo:List CY->Bool
 |[]=>true
 |x::xs=>x.al != x.st&&xs.all (λy=>x.al != y.al&&(x.al != y.st&&(x.st != y.al&&(x.st != y.st&&x.t != y.t))))&&Eo xs
theorem nc:∀{vars:List CY},Eo vars=true->∀x∈vars,∀y∈vars,x.al≠y.st/\(x.al=y.al->x=y)/\(x.st=y.st->x=y)/\(x.t=y.t->x=y)
 |[],_,x,hx=>by cases hx
 |v::vs,h,x,hx=>by
  simp only[Eo,Bool.and_eq_true,bne_iff_ne,ne_eq,List.all_eq_true]at h;obtain⟨⟨h1,h2⟩,h3⟩:=h;intro y hy;rcases List.mem_cons.1 hx with rfl|hx'<;>rcases List.mem_cons.1 hy with rfl|hy'
  ·exact⟨h1,λ_=>rfl,λ_=>rfl,λ_=>rfl⟩
  ·obtain⟨g1,g2,g3,g4,g5⟩:=h2 y hy';exact⟨g2,λe=>absurd e g1,λe=>absurd e g4,λe=>absurd e g5⟩
  ·obtain⟨g1,g2,g3,g4,g5⟩:=h2 x hx';exact⟨λe=>g3 e.symm,λe=>absurd e.symm g1,λe=>absurd e.symm g4,λe=>absurd e.symm g5⟩
  ·exact nc h3 x hx' y hy'
def VV (vals:List Value) (vars:List CY) (w0:World) (j:Nat) (f:Nat->Bool) (u:Value) (w:World):Prop:=
 match vars.find? (λx=>x.al==j)with
 |some x=>∃g,u=.pointer (some ⟨g,0,none⟩)/\w0.heap.size<=g/\ak w g x.t (cond (f x.st) x.c x.z)
 |none=>u=vals.getD j undef
section
variable {P:Program} {ops:Array Oper} {Q:Exit->Act->World->Prop} {vals:List Value} {vars:List CY} {w0 w:World} {a0:Act} {j:Nat} {f:Nat->Bool} {u:Value}
theorem VV.no (h:VV vals vars w0 j f u w) (hn:∀x∈vars,x.al≠j):u=vals.getD j undef:=by unfold VV at h;rw[List.find?_eq_none.2 (λx hx=>by simpa using hn x hx)]at h;exact h
theorem VV.OH (hn:∀x∈vars,x.al≠j) (h:u=vals.getD j undef):VV vals vars w0 j f u w:=by unfold VV;rw[List.find?_eq_none.2 (λx hx=>by simpa using hn x hx)];exact h
theorem VV.at_ (ha:Eo vars=true) {x:CY} (hx:x∈vars):VV vals vars w0 x.al f u w↔∃g,u=.pointer (some ⟨g,0,none⟩)/\w0.heap.size<=g/\ak w g x.t (cond (f x.st) x.c x.z):=by
 unfold VV;cases h:vars.find? (λy=>y.al==x.al)with
 |none=>exact absurd (List.find?_eq_none.1 h x hx) (by simp)
 |some y=>have h1:=List.find?_some h;obtain rfl:=(nc ha y (List.mem_of_find?_eq_some h) x hx).2.1 (by simpa using h1);exact Iff.rfl
structure Ou (P:Program) (ops:Array Oper) (Q:Exit->Act->World->Prop) (vals:List Value) (vars:List CY) (x:CY):Prop where
 OM: (ops[x.al]?).bind (·.dst)=some x.slot
 dst: (ops[x.st]?).bind (·.dst)=none
 len:x.z.length=x.c.length
 on:isDep ops x.st x.al x.slot=true
 src:∃j,isDep ops x.st j x.src=true/\(∀y∈vars,y.al≠j)/\vals.getD j undef=x.v
 alloc:∀(a:Act) (w:World) (K:Act->World->Prop),K (a.put (some x.slot) (.pointer (some ⟨w.heap.size,0,none⟩))) (w.alloc (.cells x.z.toArray x.t))->wpOp P ops Q x.al K a w
 store:∀(a:Act) (w:World) (g:Nat) (K:Act->World->Prop),a.tmps.getD x.slot undef=.pointer (some ⟨g,0,none⟩)->a.tmps.getD x.src undef=x.v->w.there g 0 x.c.length->K a (w.setCells g 0 x.c)->wpOp P ops Q x.st K a w
theorem fu {id:Nat} (n:Nat) (vals:List Value) (vars:List CY) (hm:P.follows .mixedOrders=true) (hn:ops.size=n) (hc:kW ops a0.tmps.size=true) (hap:Eo vars=true) (hvar:∀x∈vars,Ou P ops Q vals vars x)
 (hord:gU (λi=>(∀x∈vars,x.al≠i/\x.st≠i)->tL P ops Q (λj u _=>(∀x∈vars,x.al≠j)->u=vals.getD j undef) (λw=>Below w0.heap.size w0 w) a0 i) 0 n)
 (hend:∀w,Below w0.heap.size w0 w->gC (Q .normal) (λi=>VV vals vars w0 i λj=>decide (j<n)) ops.toList 0 a0 w): (Code.region id ops true).wp P Q a0 w0:=by
 refine wp_region_any hm (rl (m:=n) (V:=VV vals vars w0) (G:=λ_ w=>Below w0.heap.size w0 w) (E:=λi a w w'=>((∀x∈vars,x.st≠i)->Below w.heap.size w w')/\∀x∈vars,x.st=i->∃g,a.tmps.getD x.slot undef=.pointer (some ⟨g,0,none⟩)/\ak w g x.t x.z/\w'=w.setCells g 0 x.c)
  (by omega) hc (zY hn) (Below.refl _ _).drew (λi j d f a w w' hji hd hv hE=>?_) (zC (λi h=>?_) n 0 hord) λw h=>by rw[hn,Nat.sub_self,u_ hn];exact hend w h)
 ·by_cases hj:∃x∈vars,x.al=j
  ·obtain⟨x,hx,rfl⟩:=hj;rw[VV.at_ hap hx]at hv|-;obtain⟨g,e,hg,hk⟩:=hv;refine⟨g,e,hg,?_⟩;by_cases hi:∃y∈vars,y.st=i
   ·obtain⟨y,hy,rfl⟩:=hi;obtain⟨g',e',hk',rfl⟩:=hE.2 y hy rfl;by_cases hxy:x.st=y.st
    ·obtain rfl:=(nc hap x hx y hy).2.2.1 hxy;obtain rfl:x.slot=d:=Option.some.inj ((hvar x hx).OM.symm.trans hd);obtain rfl:g=g':=(by rw[e]at e';injection e' with e';injection e' with e';injection e');rw[decide_eq_true rfl,Bool.true_or];have:=hk'.setCells x.c 0 (by rw[(hvar x hx).len];omega);rwa [ck _ _ (hvar x hx).len.symm]at this
    ·rw[decide_eq_false hxy,Bool.false_or];refine hk.grown (fZ y.c w 0) λe=>?_;injection e with e;subst e;have h2:some (Obj.cells _ x.t (0,0))=some (Obj.cells _ y.t (0,0)):=hk.symm.trans hk';injection h2 with h2;injection h2 with _ h2;exact hxy (by rw[(nc hap x hx y hy).2.2.2 h2])
   ·rw[decide_eq_false λe=>hi ⟨x,hx,e⟩,Bool.false_or];exact hk.ext (hE.1 λy hy e=>hi ⟨y,hy,e⟩)
  ·have hj':∀x∈vars,x.al≠j:=λx hx e=>hj ⟨x,hx,e⟩;exact VV.OH hj' (hv.no hj')
 ·intro f a w hf hdf hcl hG hd hs K hK;by_cases hal:∃x∈vars,x.al=i
  ·obtain⟨x,hx,rfl⟩:=hal;have hb:Below w.heap.size w (w.alloc (.cells x.z.toArray x.t)):=(Below.refl _ _).alloc (Nat.le_refl _) _;refine(hvar x hx).alloc a w K ?_;rw[<-(hvar x hx).OM];refine hK _ _ ?_ (hG.trans (hb.mono hG.size)) ⟨λ_=>hb,λy hy e=>absurd e.symm (nc hap x hx y hy).1⟩;rw[VV.at_ hap hx,decide_eq_false (Ne.symm (nc hap x hx x hx).1),Bool.false_or,hcl.no _ _ _ hf (hvar x hx).on];exact⟨_,rfl,hG.size,ak.new w _ _⟩
  by_cases hst:∃x∈vars,x.st=i
  ·obtain⟨x,hx,rfl⟩:=hst;have hv:=hd _ _ (hvar x hx).on;rw[VV.at_ hap hx,hf]at hv;obtain⟨g,e,hg,hk⟩:=hv;replace hk:ak w g x.t x.z:=hk;obtain⟨k,hk1,hk2,hk3⟩:=(hvar x hx).src;have hl:=(hvar x hx).len;refine(hvar x hx).store a w g K e ((hd _ _ hk1).no hk2 |>.trans hk3) (hk.there 0 _ (by rw[hl];omega)) ?_;have:=hK (vals.getD x.st undef) _ (VV.OH (λy hy=>(nc hap y hy x hx).1) rfl) (aS hG hg 0 x.c) ⟨λh=>absurd rfl (h x hx),λy hy e'=>by obtain rfl:=(nc hap y hy x hx).2.2.1 e';exact⟨g,e,hk,rfl⟩⟩;rw[(hvar x hx).dst]at this;exact this
  have hi:∀x∈vars,x.al≠i/\x.st≠i:=λx hx=>⟨λe=>hal ⟨x,hx,e⟩,λe=>hst ⟨x,hx,e⟩⟩;exact h hi a w hG (λj d h hn=>(hd j d h).no hn) hs K λv w' hv hg hb=>hK v w' (VV.OH (λx hx=>(hi x hx).1) (hv λx hx=>(hi x hx).1)) hg ⟨λ_=>hb,λx hx e=>absurd e (hi x hx).2⟩
end
end
section
open Go.RowKit
section
variable {P:Program} {ops:Array Oper} {Q:Exit->Act->World->Prop} {a0:Act} {i:Nat}
theorem rj {p:Prop} (h:p:=by rintro e w' ⟨rfl,hb⟩;exact hK _ _ rfl (hG.trans (hb.mono hG.size)) hb):p:=h
theorem pj {w:World} {a:Act} {o:Oper} {K:Act->World->Prop} (h:o.wp P a w K Q) (ho:ops[i]? =some o:=by rfl) (hg:o.guard=none:=by rfl):wpOp P ops Q i K a w:=iX ho hg h
def Rd (V:Nat->Value->World->Prop) (a:Act) (x:World):List Nat->Prop
 |j::t::l=>V j (a.tmps.getD t undef) x/\Rd V a x l
 |_=>True
def Sd (a0 a:Act):List Nat->Prop
 |t::l=>a.tmps.getD t undef=a0.tmps.getD t undef/\Sd a0 a l
 |[]=>True
def Jd (ops:Array Oper) (i:Nat):List Nat->Bool
 |j::t::l=>isDep ops i j t&&Jd ops i l
 |_=>true
def Ow (vars:List CY):List Nat->Bool
 |j::_::l=>(vars.all λx=>x.al != j)&&Ow vars l
 |_=>true
theorem Rd.of {V:Nat->Value->World->Prop} {a:Act} {x:World} (hd:∀j d,isDep ops i j d=true->V j (a.tmps.getD d undef) x):∀l,Jd ops i l=true->Rd V a x l
 |j::t::l,h=>by unfold Jd at h;rw[Bool.and_eq_true]at h;exact⟨hd j t h.1,Rd.of hd l h.2⟩
 |[_],_=>trivial
 |[],_=>trivial
theorem Sd.of {a:Act} (hs:∀t,iZ ops i t=true->a.tmps.getD t undef=a0.tmps.getD t undef):∀l:List Nat,l.all (iZ ops i)=true->Sd a0 a l
 |t::l,h=>by rw[List.all_cons,Bool.and_eq_true]at h;exact⟨hs t h.1,Sd.of hs l h.2⟩
 |[],_=>trivial
theorem Rd.OG {vals:List Value} {vars:List CY} {a:Act} {x:World} (hd:∀j d,isDep ops i j d=true->(∀x∈vars,x.al≠j)->a.tmps.getD d undef=vals.getD j undef):∀l,Jd ops i l=true->Ow vars l=true->Rd (λj u _=>u=vals.getD j undef) a x l
 |j::t::l,h,h'=>by unfold Jd at h;unfold Ow at h';rw[Bool.and_eq_true]at h h';exact⟨hd j t h.1 λx hx=>by simpa using List.all_eq_true.1 h'.1 x hx,Rd.OG hd l h.2 h'.2⟩
 |[_],_,_=>trivial
 |[],_,_=>trivial
theorem Gp {l s:List Nat} (h: (Jd ops i l&&s.all (iZ ops i))=true):Jd ops i l=true/\s.all (iZ ops i)=true:=by rwa [Bool.and_eq_true]at h
theorem rx {V:Nat->Value->World->Prop} {G F:World->Prop} (l s:List Nat) (hF:∀x,G x->F x) (hc: (Jd ops i l&&s.all (iZ ops i))=true:=by kernel_rfl)
 (h:∀a x,G x->F x->Rd V a x l->Sd a0 a s->∀K:Act->World->Prop,(∀v w',V i v w'->G w'->Below x.heap.size x w'->K (a.put ((ops[i]?).bind (·.dst)) v) w')->wpOp P ops Q i K a x:=by intro a x hG x0 hR hS K hK;(try simp only[Rd,Sd,ez,ey,List.getD_cons_zero,List.getD_cons_succ,and_true]at hR hS);refine iX rfl rfl ?_;go_simp;exact hK _ _ rfl hG (Below.refl _ _)):tL P ops Q V G a0 i:=
 λa x hG hd hs K hK=>h a x hG (hF x hG) (Rd.of hd l (Gp hc).1) (Sd.of hs s (Gp hc).2) K hK
theorem rz {V:Nat->Value->World->Prop} {G:World->Prop} (l s:List Nat) (hc: (Jd ops i l&&s.all (iZ ops i))=true:=by kernel_rfl)
 (h:∀a x,G x->Rd V a x l->Sd a0 a s->∀K:Act->World->Prop,(∀v w',V i v w'->G w'->Below x.heap.size x w'->K (a.put ((ops[i]?).bind (·.dst)) v) w')->wpOp P ops Q i K a x:=by intro a x hG hR hS K hK;(try simp only[Rd,Sd,ez,ey,List.getD_cons_zero,List.getD_cons_succ,and_true]at hR hS);refine iX rfl rfl ?_;go_simp;exact hK _ _ rfl hG (Below.refl _ _)):tL P ops Q V G a0 i:=
 λa x hG hd hs K hK=>h a x hG (Rd.of hd l (Gp hc).1) (Sd.of hs s (Gp hc).2) K hK
theorem Gq {V:Nat->Value->World->Prop} {G F:World->Prop} (l s:List Nat) (hF:∀x,G x->F x) (hc: (Jd ops i l&&s.all (iZ ops i))=true:=by kernel_rfl)
 (h:∀a x,G x->F x->Rd V a x l->Sd a0 a s->∀K:Act->World->Prop,(∀v w',V i v w'->G w'->Below x.heap.size x w'->K (a.put ((ops[i]?).bind (·.dst)) v) w')->wpOp P ops Q i K a x:=by intro a x hG x0 hR hS K hK;refine kG rfl rfl rfl (by first|exact hR.1|exact hS.1) ?_;(try simp only[Rd,Sd,ez,ey,List.getD_cons_zero,List.getD_cons_succ,and_true]at hR hS);go_simp;exact hK _ _ rfl hG (Below.refl _ _)):tL P ops Q V G a0 i:=
 λa x hG hd hs K hK=>h a x hG (hF x hG) (Rd.of hd l (Gp hc).1) (Sd.of hs s (Gp hc).2) K hK
theorem Dh {V:Nat->Value->World->Prop} {G:World->Prop} (l s:List Nat) (hc: (Jd ops i l&&s.all (iZ ops i))=true:=by kernel_rfl)
 (h:∀a x,G x->Rd V a x l->Sd a0 a s->∀K:Act->World->Prop,(∀v w',V i v w'->G w'->Below x.heap.size x w'->K (a.put ((ops[i]?).bind (·.dst)) v) w')->wpOp P ops Q i K a x:=by intro a x hG hR hS K hK;refine kG rfl rfl rfl (by first|exact hR.1|exact hS.1) ?_;(try simp only[Rd,Sd,ez,ey,List.getD_cons_zero,List.getD_cons_succ,and_true]at hR hS);go_simp;exact hK _ _ rfl hG (Below.refl _ _)):tL P ops Q V G a0 i:=
 λa x hG hd hs K hK=>h a x hG (Rd.of hd l (Gp hc).1) (Sd.of hs s (Gp hc).2) K hK
theorem wT {V:Nat->Value->World->Prop} {G:World->Prop} (l s:List Nat) (hc: (Jd ops i l&&s.all (iZ ops i))=true:=by kernel_rfl)
 (h:∀a x,G x->Rd V a x l->Sd a0 a s->∀K:Act->World->Prop,(∀v w',V i v w'->G w'->Below x.heap.size x w'->K (a.put ((ops[i]?).bind (·.dst)) v) w')->wpOp P ops Q i K a x:=by intro a x hG hR hS K hK;refine Nv rfl rfl rfl (by first|exact hR.1|exact hS.1) ?_;exact hK _ _ rfl hG (Below.refl _ _)):tL P ops Q V G a0 i:=
 λa x hG hd hs K hK=>h a x hG (Rd.of hd l (Gp hc).1) (Sd.of hs s (Gp hc).2) K hK
theorem lx {V:Nat->(Nat->Bool)->Value->World->Prop} {G F: (Nat->Bool)->World->Prop} {E:Nat->Act->World->World->Prop} (l s:List Nat) (hF:∀f x,G f x->F f x) (hc: (Jd ops i l&&s.all (iZ ops i))=true:=by kernel_rfl)
 (h:∀f a x,f i=false->G f x->F f x->Rd (λj=>V j f) a x l->Sd a0 a s->∀K:Act->World->Prop,(∀v w',V i (λj=>decide (j=i)||f j) v w'->G (λj=>decide (j=i)||f j) w'->E i a x w'->K (a.put ((ops[i]?).bind (·.dst)) v) w')->wpOp P ops Q i K a x:=by intro f a x hf hG x0 hR hS K hK;(try simp only[Rd,Sd,ez,ey,List.getD_cons_zero,List.getD_cons_succ,and_true]at hR hS);refine iX rfl rfl ?_;go_simp;exact hK _ _ rfl hG (by first|exact af.refl _ _|exact Below.refl _ _|exact Gt.of (by decide) (Below.refl _ _)|exact Es.of (by decide) (Below.refl _ _)|exact qm.of (by decide) (by decide) (Below.refl _ _))):Gy P ops Q V G E a0 i:=
 λf a x hf _ _ hG hd hs K hK=>h f a x hf hG (hF f x hG) (Rd.of hd l (Gp hc).1) (Sd.of hs s (Gp hc).2) K hK
theorem lz {V:Nat->(Nat->Bool)->Value->World->Prop} {G: (Nat->Bool)->World->Prop} {E:Nat->Act->World->World->Prop} (l s:List Nat) (hc: (Jd ops i l&&s.all (iZ ops i))=true:=by kernel_rfl)
 (h:∀f a x,f i=false->G f x->Rd (λj=>V j f) a x l->Sd a0 a s->∀K:Act->World->Prop,(∀v w',V i (λj=>decide (j=i)||f j) v w'->G (λj=>decide (j=i)||f j) w'->E i a x w'->K (a.put ((ops[i]?).bind (·.dst)) v) w')->wpOp P ops Q i K a x:=by intro f a x hf hG hR hS K hK;(try simp only[Rd,Sd,ez,ey,List.getD_cons_zero,List.getD_cons_succ,and_true]at hR hS);refine iX rfl rfl ?_;go_simp;exact hK _ _ rfl hG (by first|exact af.refl _ _|exact Below.refl _ _|exact Gt.of (by decide) (Below.refl _ _)|exact Es.of (by decide) (Below.refl _ _)|exact qm.of (by decide) (by decide) (Below.refl _ _))):Gy P ops Q V G E a0 i:=
 λf a x hf _ _ hG hd hs K hK=>h f a x hf hG (Rd.of hd l (Gp hc).1) (Sd.of hs s (Gp hc).2) K hK
theorem cz {vals:List Value} {G: (Nat->Bool)->World->Prop} (l s:List Nat) (hc: (Jd ops i l&&s.all (iZ ops i))=true:=by kernel_rfl)
 (h:∀f a x,f i=false->G f x->Rd (λj u _=>u=vals.getD j undef) a x l->Sd a0 a s->∀K:Act->World->Prop,(∀v w',v=vals.getD i undef->G (λj=>decide (j=i)||f j) w'->K (a.put ((ops[i]?).bind (·.dst)) v) w')->wpOp P ops Q i K a x:=by intro f a x hf hG hR hS K hK;have HG:=Lib.hid hG;clear hG;(try simp only[Rd,Sd,ez,ey,List.getD_cons_zero,List.getD_cons_succ,and_true]at hR hS);refine iX rfl rfl ?_;go_simp;exact hK _ _ rfl HG.out):Nn P ops Q vals G a0 i:=
 λf a x hf _ _ hG hd hs K hK=>h f a x hf hG (Rd.of (V:=λj u _=>u=vals.getD j undef) hd l (Gp hc).1) (Sd.of hs s (Gp hc).2) K hK
theorem gz {vals:List Value} {G: (Nat->Bool)->World->Prop} (l s:List Nat) (hz:∀f x,f i=false->G f x->G (λj=>decide (j=i)||f j) x) (hc: (Jd ops i l&&s.all (iZ ops i))=true:=by kernel_rfl)
 (h:∀f a x,f i=false->G f x->G (λj=>decide (j=i)||f j) x->Rd (λj u _=>u=vals.getD j undef) a x l->Sd a0 a s->∀K:Act->World->Prop,(∀v w',v=vals.getD i undef->G (λj=>decide (j=i)||f j) w'->K (a.put ((ops[i]?).bind (·.dst)) v) w')->wpOp P ops Q i K a x:=by intro f a x hf hG hZ hR hS K hK;(try simp only[Rd,Sd,ez,ey,List.getD_cons_zero,List.getD_cons_succ,and_true]at hR hS);refine iX rfl rfl ?_;go_simp;exact hK _ _ rfl hZ):Nn P ops Q vals G a0 i:=
 λf a x hf _ _ hG hd hs K hK=>h f a x hf hG (hz f x hf hG) (Rd.of (V:=λj u _=>u=vals.getD j undef) hd l (Gp hc).1) (Sd.of hs s (Gp hc).2) K hK
theorem vz {vals:List Value} {vars:List CY} {w0:World} (l s:List Nat) (hc: (Jd ops i l&&s.all (iZ ops i))=true:=by kernel_rfl) (hv:Ow vars l=true:=by kernel_rfl)
 (h:∀a x,Below w0.heap.size w0 x->Rd (λj u _=>u=vals.getD j undef) a x l->Sd a0 a s->∀K:Act->World->Prop,(∀v w',v=vals.getD i undef->Below w0.heap.size w0 w'->Below x.heap.size x w'->K (a.put ((ops[i]?).bind (·.dst)) v) w')->wpOp P ops Q i K a x:=by intro a x hG hR hS K hK;(try simp only[Rd,Sd,ez,ey,List.getD_cons_zero,List.getD_cons_succ,and_true]at hR hS);refine iX rfl rfl ?_;go_simp;exact hK _ _ rfl hG (Below.refl _ _)):
 (∀x∈vars,x.al≠i/\x.st≠i)->tL P ops Q (λj u _=>(∀x∈vars,x.al≠j)->u=vals.getD j undef) (λw=>Below w0.heap.size w0 w) a0 i:=
 λ_ a x hG hd hs K hK=>h a x hG (Rd.OG hd l (Gp hc).1 hv) (Sd.of hs s (Gp hc).2) K λv w' e g b=>hK v w' (λ_=>e) g b
theorem vx {vals:List Value} {vars:List CY} {w0:World} {F:World->Prop} (l s:List Nat) (hF:∀x,Below w0.heap.size w0 x->F x) (hc: (Jd ops i l&&s.all (iZ ops i))=true:=by kernel_rfl) (hv:Ow vars l=true:=by kernel_rfl)
 (h:∀a x,Below w0.heap.size w0 x->F x->Rd (λj u _=>u=vals.getD j undef) a x l->Sd a0 a s->∀K:Act->World->Prop,(∀v w',v=vals.getD i undef->Below w0.heap.size w0 w'->Below x.heap.size x w'->K (a.put ((ops[i]?).bind (·.dst)) v) w')->wpOp P ops Q i K a x:=by intro a x hG x0 hR hS K hK;(try simp only[Rd,Sd,ez,ey,List.getD_cons_zero,List.getD_cons_succ,and_true]at hR hS);refine iX rfl rfl ?_;go_simp;exact hK _ _ rfl hG (Below.refl _ _)):
 (∀x∈vars,x.al≠i/\x.st≠i)->tL P ops Q (λj u _=>(∀x∈vars,x.al≠j)->u=vals.getD j undef) (λw=>Below w0.heap.size w0 w) a0 i:=
 λ_ a x hG hd hs K hK=>h a x hG (hF x hG) (Rd.OG hd l (Gp hc).1 hv) (Sd.of hs s (Gp hc).2) K λv w' e g b=>hK v w' (λ_=>e) g b
theorem vn {vars:List CY} {p:Prop} (h: (vars.any λx=>x.al==i||x.st==i)=true:=by kernel_rfl): (∀x∈vars,x.al≠i/\x.st≠i)->p:=λhn=>by obtain⟨x,hx,h⟩:=List.any_eq_true.1 h;rw[Bool.or_eq_true,beq_iff_eq,beq_iff_eq]at h;exact absurd h (not_or.2 (hn x hx))
end
end
namespace Pk
def be (v:Nat):Nat->List UInt8
 |0=>[]
 |n+1=>UInt8.ofNat (v/256^n)::be v n
theorem fQ (v n:Nat): (be v n).length=n:=by
 induction n with
 |zero=>rfl
 |succ n ih=>simp only[be,List.length_cons,ih]
def val (l:List UInt8):Nat:=l.foldl (λv c=>v*256+c.toNat) 0
def lG (v:Nat) (l:List UInt8):Nat:=l.foldl (λv c=>v*256+c.toNat) v
theorem yH (l:List UInt8):∀v,lG v l=v*256^l.length+val l:=by
 induction l with
 |nil=>intro v;simp[lG,val]
 |cons c l ih=>intro v;show lG (v*256+c.toNat) l=v*256^(l.length+1)+lG (0*256+c.toNat) l;rw[ih,ih (0*256+c.toNat),Nat.pow_succ,Nat.zero_mul,Nat.zero_add,Nat.add_mul,Nat.mul_assoc,Nat.mul_comm 256,Nat.add_assoc]
theorem Eh (c:UInt8) (l:List UInt8):val (c::l)=c.toNat*256^l.length+val l:=by have:=yH l c.toNat;show lG (0*256+c.toNat) l=_;rw[Nat.zero_mul,Nat.zero_add,this]
theorem DV (l:List UInt8):val l<256^l.length:=by
 induction l with
 |nil=>simp[val]
 |cons c l ih=>rw[Eh,List.length_cons,Nat.pow_succ,Nat.mul_comm (256^l.length) 256];have I:=c.toNat_lt;have:c.toNat*256^l.length<=255*256^l.length:=Nat.mul_le_mul_right _ om;omega
theorem El (l:List UInt8) (c:UInt8):val (l++[c])=val l*256+c.toNat:=by unfold val;rw[List.foldl_append];rfl
theorem Le (v n i:Nat) (h:i<n): (be v n)[i]? =some (UInt8.ofNat (v/256^(n-1-i))):=by
 induction n generalizing i with
 |zero=>omega
 |succ n ih=>
  cases i with
  |zero=>simp[be]
  |succ i=>rw[be,List.getElem?_cons_succ,ih i om];congr 4;omega
theorem Iy (v n i:Nat) (h:i<n): (be v n).take (i+1)=(be v n).take i++[UInt8.ofNat (v/256^(n-1-i))]:=by rw[List.take_add_one,Le v n i h];rfl
theorem Il (V ch:Nat) (hV:V<72057594037927936) (hc:ch<256):bits .or .u64 ((V:Int)*256) (ch:Int)=((V*256+ch:Nat):Int):=by
 have h:=u64_or_nat (V*256) ch om om;have e:V*256|||ch=V*256+ch:=by have:=Nat.shiftLeft_add_eq_or_of_lt (i:=8) (b:=ch) (by simpa using hc) V;rw[Nat.shiftLeft_eq]at this;exact this.symm
 rw[e]at h;rw[<-h];rfl
theorem Ev (l:List UInt8) (j:Nat) (h:j<l.length):val (l.take (j+1))=val (l.take j)*256+(l.getD j 0).toNat:=by rw[List.take_succ_eq_append_getElem h,El];simp[List.getD,h]
theorem CP (l:List UInt8) (h:l.length<=7):val l<72057594037927936:=by have I:=DV l;have J:256^l.length<=256^7:=Nat.pow_le_pow_right om h;omega
def nK (w:Int):Bool:=decide (1<=w/\w<=8)
def iQ (x:Int×Nat):Nat:=if nK x.1 then(if x.2<256^x.1.toNat then 0 else 19)else 1
def nF:List (Int×Nat)->Nat
 |[]=>0
 |x::l=>if iQ x=0 then nF l else iQ x
def tZ (x:Int×Nat):List UInt8:=be x.2 x.1.toNat
def bO (l:List (Int×Nat)):List UInt8:=l.flatMap tZ
def packed (l:List (Int×Nat)):List UInt8:=if nF l=0 then bO l else []
theorem lR {x:Int×Nat} (h:iQ x=0):1<=x.1/\x.1<=8/\x.2<256^x.1.toNat:=by
 unfold iQ nK at h;split at h
 ·rename_i h1;have:=of_decide_eq_true h1;split at h
  ·exact⟨this.1,this.2,by assumption⟩
  ·simp at h
 ·simp at h
theorem iM {l:List (Int×Nat)} (h:∀x∈l,iQ x=0):nF l=0:=by
 induction l with
 |nil=>rfl
 |cons y l ih=>unfold nF;rw[if_pos (h y List.mem_cons_self)];exact ih λx hx=>h x (List.mem_cons_of_mem _ hx)
theorem z_:∀(l:List (Int×Nat)) (k:Nat) (x:Int×Nat),(∀y∈l.take k,iQ y=0)->l[k]? =some x->iQ x≠0->nF l=iQ x
 |[],k,x,_,h,_=>by simp at h
 |y::l,0,x,_,h,hx=>by simp only[List.getElem?_cons_zero,Option.some.injEq]at h;subst h;unfold nF;rw[if_neg hx]
 |y::l,k+1,x,h1,h,hx=>by unfold nF;rw[if_pos (h1 y sj)];exact z_ l k x (λz I=>h1 z (by simp[I])) (by simpa using h) hx
theorem jH (l:List (Int×Nat)) (h:∀x∈l,iQ x=0): (bO l).length<=8*l.length:=by
 induction l with
 |nil=>simp[bO]
 |cons x l ih=>have R:=lR (h x List.mem_cons_self);have I:=ih λy J=>h y (List.mem_cons_of_mem _ J);unfold bO at I|-;rw[List.flatMap_cons,List.length_append,List.length_cons];unfold tZ at*;rw[fQ];omega
theorem fh (l:List (Int×Nat)): (bO l).length=(l.map λx=>x.1.toNat).sum:=by
 induction l with
 |nil=>rfl
 |cons x l ih=>unfold bO at ih|-;rw[List.flatMap_cons,List.length_append,ih,List.map_cons,List.sum_cons];unfold tZ;rw[fQ]
theorem rK (l:List (Int×Nat)) (k:Nat) (h:k<l.length):bO (l.take (k+1))=bO (l.take k)++tZ l[k]:=by unfold bO;rw[List.take_succ_eq_append_getElem h,List.flatMap_append];simp
theorem vD (n:Nat): (2:Int)^(8*n)=((256^n:Nat):Int):=by rw[show(256:Nat)=2^8 from rfl,<-Nat.pow_mul];exact(Int.natCast_pow 2 (8*n)).symm
theorem D1 (v n:Nat): (v:Int)/2^(8*n)%256=((UInt8.ofNat (v/256^n)).toNat:Int):=by rw[vD,UInt8.toNat_ofNat'];rfl
theorem vC (v n:Nat): ((v:Int)/2^(8*n) != 0)= !decide (v<256^n):=by
 rw[vD];have hp:0<256^n:=Nat.pow_pos om;by_cases h:v<256^n
 ·have e: (v:Int)/((256^n:Nat):Int)=0:=by
   have:=Nat.div_eq_of_lt h
   exact_mod_cast this
  rw[e];simp[h]
 ·have e: (v:Int)/((256^n:Nat):Int)≠0:=(by have J:1<=v/256^n:=(Nat.one_le_div_iff hp).2 om;intro I;have:v/256^n=0:=(by exact_mod_cast I);omega);rw[decide_eq_false h];exact bne_iff_ne.2 e
theorem CE {x:Int×Nat} (h:nK x.1=false):iQ x=1:=by unfold iQ;rw[h];rfl
theorem EM {x:Int×Nat} (h:nK x.1=true) (h2:¬x.2<256^x.1.toNat):iQ x=19:=by unfold iQ;rw[h,if_neg h2];rfl
theorem dy {x:Int×Nat} (h:nK x.1=true) (h2:x.2<256^x.1.toNat):iQ x=0:=by unfold iQ;rw[h,if_pos h2];rfl
theorem qq {l:List (Int×Nat)} {k:Nat} (hk:k<l.length) (h:∀x∈l.take k,iQ x=0) (hx:iQ l[k]=0):∀x∈l.take (k+1),iQ x=0:=by
 intro x hm;rw[List.take_succ_eq_append_getElem hk]at hm;rcases List.mem_append.1 hm with hm|hm
 ·exact h x hm
 ·rw[List.mem_singleton.1 hm];exact hx
theorem pT {l:List (Int×Nat)} (h:nF l≠0):packed l=[]:=by unfold packed;rw[if_neg h]
def dJ (l:List UInt8):List Int->List Nat
 |[]=>[]
 |w::ws=>val (l.take w.toNat)::dJ (l.drop w.toNat) ws
def db (ws:List Int):Nat:=(ws.map Int.toNat).sum
def mu (l:List UInt8) (ws:List Int):Nat:=if ws.all nK then(if l.length<db ws then 2 else 0)else 1
def dB (l:List UInt8) (ws:List Int):List Nat:=if mu l ws=0 then dJ l ws else []
theorem vI (l:List UInt8) (ws:List Int): (dJ l ws).length=ws.length:=by
 induction ws generalizing l with
 |nil=>rfl
 |cons w ws ih=>simp only[dJ,List.length_cons,ih]
theorem nI (w:Int):nK w=true↔1<=w/\w<=8:=by unfold nK;rw[decide_eq_true_iff]
theorem nS (ws:List Int) (h:∀w∈ws,nK w=true):db ws<=8*ws.length:=by
 induction ws with
 |nil=>simp[db]
 |cons w ws ih=>have R:=(nI w).1 (h w List.mem_cons_self);have I:=ih λy J=>h y (List.mem_cons_of_mem _ J);unfold db at I|-;rw[List.map_cons,List.sum_cons,List.length_cons];omega
theorem ru (ws:List Int) (k:Nat) (h:k<ws.length):db (ws.take (k+1))=db (ws.take k)+ws[k].toNat:=by unfold db;rw[List.take_succ_eq_append_getElem h,List.map_append,List.sum_append];simp
theorem rW (ws:List Int) (k:Nat):db (ws.take k)<=db ws:=by
 have:db ws=db (ws.take k)+db (ws.drop k):=by unfold db;rw[<-List.sum_append,<-List.map_append,List.take_append_drop]
 omega
theorem vw (l:List UInt8) (us ws:List Int):dJ l (us++ws)=dJ l us++dJ (l.drop (db us)) ws:=by
 induction us generalizing l with
 |nil=>simp[dJ,db]
 |cons u us ih=>simp only[List.cons_append,dJ,ih,List.drop_drop];unfold db;rw[List.map_cons,List.sum_cons]
theorem BR (l:List UInt8) (ws:List Int) (k:Nat) (h:k<ws.length):dJ l (ws.take (k+1))=dJ l (ws.take k)++[val ((l.drop (db (ws.take k))).take ws[k].toNat)]:=by rw[List.take_succ_eq_append_getElem h,vw];rfl
def pad (n:Nat) (l:List UInt8):List UInt8:=l++List.replicate (n-l.length) 0
theorem dA (n:Nat) (l:List UInt8) (h:l.length<=n): (pad n l).length=n:=by unfold pad;rw[List.length_append,List.length_replicate];omega
end Pk
namespace Sp
def nb (n:Nat):Nat:=(n+127)/128
def blk (d:List UInt8) (n:Nat):List UInt8:=Pk.pad 128 ((d.drop (128*n)).take 128)
theorem aM (d:List UInt8) (n:Nat): (blk d n).length=128:=Pk.dA _ _ (List.length_take_le _ _)
theorem iT (d:List UInt8) (n j:Nat) (hj:j<128): (blk d n).getD j 0=d.getD (128*n+j) 0:=by
 unfold blk Pk.pad;rw[List.getD_eq_getElem?_getD,List.getD_eq_getElem?_getD,List.getElem?_append];split
 ·rw[List.getElem?_take,if_pos hj,List.getElem?_drop]
 ·rename_i h;rw[List.length_take,List.length_drop]at h;rw[List.getElem?_replicate];have:d[128*n+j]? =none:=List.getElem?_eq_none om;rw[this];split<;>rfl
theorem jM {l m:List UInt8} (h:l.length=m.length) (he:∀j,j<l.length->l.getD j 0=m.getD j 0):l=m:=by refine List.ext_getElem h λj I J=>?_;have:=he j I;simpa [List.getD,I,J]using this
structure F where
 d:List UInt8
 k:Nat
def F.ok (f:F):Prop:=f.k<=nb f.d.length/\∀j,128*f.k<=j->f.d.getD j 0=0
def F.none:F:=⟨[],0⟩
theorem IK:F.none.ok:=⟨Nat.le_refl _,λj _=>by simp[F.none]⟩
def F.write (f:F) (b:List UInt8):F:=if b=[]then f else⟨b,nb b.length⟩
def F.cut (f:F) (n:Nat):F:=if n<f.d.length then⟨f.d.take n,min f.k (nb n)⟩else⟨f.d++List.replicate (n-f.d.length) 0,f.k⟩
theorem getD_take (d:List UInt8) (n j:Nat): (d.take n).getD j 0=if j<n then d.getD j 0 else 0:=by
 rw[List.getD_eq_getElem?_getD,List.getElem?_take];split
 ·rw[List.getD_eq_getElem?_getD]
 ·rfl
theorem oz (d:List UInt8) (m j:Nat): (d++List.replicate m 0).getD j 0=d.getD j 0:=by
 rw[List.getD_eq_getElem?_getD,List.getElem?_append,List.getD_eq_getElem?_getD];split
 ·rfl
 ·rename_i h;rw[List.getElem?_eq_none (show d.length<=j by omega),List.getElem?_replicate];split<;>rfl
theorem DO (f:F) (n:Nat) (h:f.ok): (f.cut n).ok:=by
 obtain⟨U,R⟩:=h;unfold F.cut;split
 ·rename_i hlt;refine⟨?_,λj I=>?_⟩
  ·show min f.k (nb n)<=nb (f.d.take n).length;rw[List.length_take,show min n f.d.length=n from Nat.min_eq_left om];exact Nat.min_le_right _ _
  ·show(f.d.take n).getD j 0=0;have J:128*min f.k (nb n)<=j:=I;rw[getD_take];split
   ·rename_i hjn;refine R j ?_;unfold nb at J;omega
   ·rfl
 ·refine⟨?_,λj I=>?_⟩
  ·show f.k<=nb (f.d++List.replicate (n-f.d.length) 0).length;rw[List.length_append,List.length_replicate];unfold nb at U|-;omega
  ·show(f.d++List.replicate (n-f.d.length) 0).getD j 0=0;rw[oz];exact R j I
theorem sJ (f:F) (n:Nat): (f.cut n).d.length=n:=by
 unfold F.cut;split
 ·show(f.d.take n).length=n;rw[List.length_take];omega
 ·show(f.d++List.replicate (n-f.d.length) 0).length=n;rw[List.length_append,List.length_replicate];omega
theorem GP (d:List UInt8) (n:Nat) (j:Nat) (hj:j*128<=n): (blk d j).take (n-128*j)++List.replicate (128-(n-128*j)) 0=blk (d.take n) j\/128<n-128*j:=by
 by_cases J:128<n-128*j
 ·exact .inr J
 refine .inl (jM ?_ λi hi=>?_)
 ·rw[List.length_append,List.length_take,List.length_replicate,aM,aM];omega
 ·rw[List.length_append,List.length_take,List.length_replicate,aM]at hi;have I:i<128:=(by omega);rw[iT _ j i I,getD_take,List.getD_eq_getElem?_getD,List.getElem?_append,List.length_take,aM];split
  ·rename_i hlt;rw[List.getElem?_take,if_pos om,<-List.getD_eq_getElem?_getD,iT d j i I,if_pos om]
  ·rename_i hge;rw[List.getElem?_replicate,if_neg (by omega:¬128*j+i<n)];split<;>rfl
theorem wF (d:List UInt8) (n j:Nat) (h:128*(j+1)<=n):blk (d.take n) j=blk d j:=by refine jM (by rw[aM,aM]) λi hi=>?_;rw[aM]at hi;rw[iT _ j i hi,iT _ j i hi,getD_take,if_pos om]
theorem BY (d:List UInt8) (m j:Nat):blk (d++List.replicate m 0) j=blk d j:=by refine jM (by rw[aM,aM]) λi hi=>?_;rw[aM]at hi;rw[iT _ j i hi,iT _ j i hi,oz]
end Sp
section
open Go.RowKit Go.ChangeShapes Go.WideShapes Go.ChangeAt
theorem ig (A:Option Addr) (n c k:Nat) (hk:k<=n) (z:Int) (hz:z=k) (W:World):
 (Instr.slice 23 (.slice A n c) (some (i6 z)) none none).run prog W=.ok (.slice (if c=k then A else A.map (·.add k)) (n-k) (c-k)) W:=by
 subst hz;rw[run_slice_l _ _ _ _ _ kj .i64 _ om om,Int.toNat_natCast];have hs: (sizeOf (prog.elem 23)).run prog W=.ok 1 W:=kj;rw[hs];simp[Result.andThen,sliced]
theorem s' {w:World} {B:Nat} {A:Option Addr} {c k:Nat} {r:List UInt8} (h:Bs w B (.slice A r.length c) r) (hk:k<=r.length) (z:Int) (hz:z=k):
 ∃A' c',(∀W,(Instr.slice 23 (.slice A r.length c) (some (i6 z)) none none).run prog W=.ok (.slice A' (r.drop k).length c') W)/\Bs w B (.slice A' (r.drop k).length c') (r.drop k):=by
 have I:=Bs.tail h hk;have J:=ig A r.length c k hk z hz;rw[<-List.length_drop]at J I;exact⟨_,_,J,I⟩
def dU (l:List UInt8):List Value:=l.map λc=>.int .u8 (c.toNat:Int)
theorem oC: (prog.info? 5).map (λi=>(i.zero,i.size,i.bytes))=some (some (.int .u8 0),1,1):=by kernel_rfl
theorem mC {w:World} {base:Nat} {e:TypeId} {sz n:Nat} {v:Value} {xs:List Value} (h:w.ownsRow base e sz v n xs):∀(j:Nat) (o:Obj),v.ownBlock=some j->w.heap[j]? =some o->o.isCells=true:=λj o e J=>by
 rcases h.2 with⟨rfl,_⟩|⟨U,R,cur,rfl,_,I,_⟩
 ·cases e
 ·cases e;rw[I]at J;cases J;rfl
theorem bC {β:Type} (B g:Nat) (t:TypeId) (f:β->List Value):OwnFrom B (λs W=>ak W g t (f s)):=λs A W row hs J R=>hs.grown J (λe=>by obtain⟨_,o,I,U⟩:=R g e.symm;have j:A.heap[g]? =some (.cells (f s).toArray t (0,0)):=hs;rw[j]at I;cases I;cases U)
theorem nX (w:World) (b i:Nat) (v:Value):w.grownBy (w.setCell (ae b i) v) (some b):=fZ [v] w i
theorem bS {w:World} {base:Nat} {e:TypeId} {sz n:Nat} {v:Value} {xs:List Value} (h:w.ownsRow base e sz v n xs):∃A c,v=.slice A n c:=by
 rcases h.2 with⟨rfl,rfl⟩|⟨J,I,cur,rfl,_⟩
 ·exact⟨_,_,rfl⟩
 ·exact⟨_,_,rfl⟩
end
namespace Sq
open Go.RowKit
structure Pc where
 n:Nat
 v:Value
 l:List UInt8
def Nl (p:Pc):List Value:=[i6 (p.n:Int),p.v]
def aZ (ps:List Pc):List Value:=ps.flatMap Nl
theorem iU (a b:List Pc):aZ (a++b)=aZ a++aZ b:=by unfold aZ;rw[List.flatMap_append]
theorem dL:∀(ps:List Pc) (k:Nat) (h:k<ps.length),(aZ ps)[k*2]? =some (i6 (ps[k].n:Int))/\(aZ ps)[k*2+1]? =some ps[k].v
 |p::r,0,_=>⟨rfl,rfl⟩
 |p::r,k+1,h=>by have:=dL r k (by simpa using h);have e:aZ (p::r)=i6 (p.n:Int)::p.v::aZ r:=rfl;rw[e,show(k+1)*2=(k*2)+1+1 by omega,List.getElem?_cons_succ,List.getElem?_cons_succ,show(k*2)+1+1+1=(k*2+1)+1+1 by omega,List.getElem?_cons_succ,List.getElem?_cons_succ];exact this
def fj (w:World) (B:Nat) (v:Value) (ps:List Pc):Prop:=bw w B 2 v ps.length (aZ ps)/\∀p∈ps,Bs w B p.v p.l/\p.l.length=128
section
variable {w w':World} {B:Nat} {v:Value} {ps:List Pc}
theorem fj.ext (h:fj w B v ps) (hB:B<=w.heap.size) (hb:Bw w w'):fj w' B v ps:=⟨h.1.ext hB hb,λp hp=>⟨(h.2 p hp).1.ext hB hb,(h.2 p hp).2⟩⟩
theorem fj.more {B':Nat} (h:fj w B v ps) (hB:B<=B'):fj w B' v ps:=⟨bw.more h.1 hB,λp hp=>⟨(h.2 p hp).1.more hB,(h.2 p hp).2⟩⟩
theorem fj.up (h:fj w w.heap.size v ps) (hb:Bw w w'):fj w' w'.heap.size v ps:=(h.ext lh hb).more hb.size
theorem fj.open_ (h:fj w B v ps):∃(A:Option Addr) (c:Nat),v=.slice A ps.length c/\ps.length<=c/\c<=9223372036854775807/\
 ∀k (hk:k<ps.length),∃b off,A=some ⟨b,off,none⟩/\b<B/\w.cell? (ae b (off+k*2))=some (i6 (ps[k].n:Int))/\w.cell? (ae b (off+(k*2+1)))=some ps[k].v:=by
 obtain⟨⟨A,c,rfl,J,R,o,U⟩,_⟩:=h;refine⟨A,c,rfl,J,R,λk hk=>?_⟩;obtain⟨b,off,rfl,j,I⟩:=U om;exact⟨b,off,rfl,j,I _ _ (dL ps k hk).1,I _ _ (dL ps k hk).2⟩
end
structure Vd (size:Nat) (ps:List Pc):Prop where
 Ol:size<=463488
 inc:ps.Pairwise λp q=>p.n<q.n
 lt:∀p∈ps,p.n<Sp.nb size
 clear:∀p,ps.getLast?=some p->∀j,size<=128*p.n+j->p.l.getD j 0=0
theorem qD (v:Value) (l:List UInt8) (w:World) (B:Nat) (h:Bs w B v l) (hz:∀j,j<l.length->l.getD j 0=0):
 Calls prog 174 #[v] w λe w'=>e=.returned (.bool true)/\w'=w:=by
 obtain⟨A,c,rfl,hc,hm,I⟩:=h.open_;have R:=ja hz;have U:=ja I;clear h hz I;go_enter func174,ntmps174;go_wp2;go_loop [4,7] (λ_ i=>∃k:Nat,k<=l.length/\i=i6 k) (λ_ i=>l.length-(intOf i).toNat)
 case atStart=>exact⟨0,Nat.zero_le _,rfl⟩
 case round=>
  obtain⟨k,hk,rfl⟩:=hrel;by_cases J:k<l.length
  ·obtain⟨b,off,rfl,hb,hx⟩:=U.a k J;have o:l[k]=0:=(by have:=R.a k J;simpa [List.getD,J]using this);rw[o]at hx;go_wp2;go_round;case rel=>exact⟨k+1,by omega,by go_num⟩
   case measure=>exact ms
  ·go_wp2;go_ret;exact⟨rfl,rfl⟩
theorem ij (n:Nat) (w:World) (hn:n<=1000000000):
 Calls prog 132 #[i6 (n:Int)] w λe w'=>e=.returned (i6 (Sp.nb n:Nat))/\w'=w:=by
 by_cases I:n=0
 ·subst I;go_enter func132,ntmps132;go_wp2;go_ret;exact⟨rfl,rfl⟩
 ·have hp:¬(n:Int)<=0:=(by omega);have e: (Sp.nb n:Nat)=(((n:Int)-1)/128+1):=(by unfold Sp.nb;omega);have J: (0:Int)<=((n:Int)-1)/128:=(by omega);have R: ((n:Int)-1)/128<=1000000000:=(by omega);go_enter func132,ntmps132;go_wp2;go_ret;exact⟨rfl,rfl⟩
def oF (ps:List Pc):Nat->Int
 |0=>-1
 |k+1=>(ps.getD k ⟨0,.slice none 0 0,[]⟩).n
theorem DU {ps:List Pc} (h:ps.Pairwise λp q=>p.n<q.n) {k:Nat} (hk:k<ps.length):oF ps k<(ps[k].n:Int):=by
 cases k with
 |zero=>show(-1:Int)<_;omega
 |succ j=>
  have:=(List.pairwise_iff_getElem.1 h) j (j+1) om hk om;show((ps.getD j _).n:Int)<_;simp only[List.getD,List.getElem?_eq_getElem (show j<ps.length by omega),Option.getD_some]
  exact_mod_cast this
theorem vN {ps:List Pc} {k:Nat} (hk:k<ps.length): (ps[k].n:Int)=oF ps (k+1):=by show _=((ps.getD k _).n:Int);simp only[List.getD,List.getElem?_eq_getElem hk,Option.getD_some]
theorem cP (v:Value) (size:Nat) (ps:List Pc) (w:World) (h:fj w w.heap.size v ps) (hv:Vd size ps) (hl:ps.length<=100000):
 Calls prog 125 #[.agg #[i6 (size:Int),v]] w λe w'=>e=.returned (.bool true)/\Bw w w':=by
 obtain⟨A,c,rfl,hc,hm,I⟩:=h.open_;have Ah:=hv.Ol;have h1:¬(size:Int)<0:=by omega
 have h2:¬(463488:Int)<(size:Int):=by omega
 have H:=ja h;have HV:=ja hv;have HC:=ja I;clear h hv I;go_enter func125,ntmps125;go_wp2_with fail
 refine(ij size _ om).mono ?_;rintro e w1 ⟨rfl,rfl⟩;obtain⟨nb,R⟩:∃nb,Sp.nb size=nb:=⟨_,rfl⟩;rw[R];have Ar:=ja R;clear R;go_wp2;generalize hW:w.alloc (.cells _ 158)=w0;have k1:ak w0 w.heap.size 158 [i6 (size:Int),.slice A ps.length c]:=by rw[<-hW];exact ak.new w _ _
 have b0:Bw w w0:=by rw[<-hW];exact bh.alloc lh _
 clear hW;obtain⟨g,hg⟩:=ex w.heap.size;have H0:=ja (H.a.up b0);rw[hg]at k1|-;have HG:=ja hg;clear hg;go_loopw [4,6,22] (λu4 u6 u22 wr=>∃k:Nat,k<=ps.length/\u22=i6 k/\u4=i6 (oF ps k)/\Bw w0 wr) (λ_ _ i _=>ps.length-(intOf i).toNat)
 case atStart=>exact⟨0,Nat.zero_le _,rfl,rfl,Below.refl _ _⟩
 case round=>
  obtain⟨k,hk,rfl,rfl,hb⟩:=hrel;have kf:=k1.ext hb;have A0:wr.cell? (ae g 0)=some (i6 (size:Int)):=kf.cell 0;have A1:wr.cell? (ae g 1)=some (.slice A ps.length c):=kf.cell 1;by_cases U:k<ps.length
  ·obtain⟨_,_,A8,_,_,I⟩:=(H0.a.ext lh hb).open_;cases A8;obtain⟨b,off,rfl,A9,x0,x1⟩:=I k U;obtain⟨hB,J⟩:=H.a.2 _ (List.getElem_mem U);obtain⟨A',c',AI,A6,AR,_⟩:=hB.open_;rw[J]at AI A6;rw[AI]at x1;have q1:=DU HV.a.inc U;have q2:=HV.a.lt _ (List.getElem_mem U);rw[Ar.a]at q2;have t1:decide ((ps[k].n:Int)<=oF ps k)=false:=decide_eq_false om;have t2:decide ((nb:Int)<=(ps[k].n:Int))=false:=decide_eq_false om;have HL:=ja (vN U);have B0:b<wr.heap.size:=Nat.lt_of_lt_of_le A9 hb.size;rw[show off+(k*2+1)=off+k*2+1 by omega]at x1;generalize As: (ps[k].n:Int)=pn at*;generalize oF ps k=ln at*;clear As hB J AI I kf A0 q1 q2;have Ao:=hb.alloc hb.size (.cells #[i6 pn,.slice A' 128 c'] 225);have Au:=ja Ao;clear Ao;go_wp2;go_roundw;case rel=>exact⟨k+1,by omega,by go_num,by rw[HL.a],Au.a⟩
   case measure=>exact ms
  ·obtain rfl:k=ps.length:=(by omega);by_cases hz:ps.length=0
   ·have e0:oF ps ps.length=-1:=(by rw[hz];rfl);rw[e0];have Av:=ja hb;clear U hb e0;go_wp2;go_ret;exact⟨rfl,b0.trans (Av.a.mono b0.size)⟩
   ·obtain⟨j,hj⟩:∃j,ps.length=j+1:=⟨ps.length-1,by omega⟩;have A3:j<ps.length:=(by omega);obtain⟨_,_,A8,_,_,I⟩:=(H0.a.ext lh hb).open_;cases A8;obtain⟨b,off,rfl,A9,x0,x1⟩:=I j A3;have A4:=List.getElem_mem A3;obtain⟨hB,J⟩:=(H0.a.up hb).2 _ A4;have q2:=HV.a.lt _ A4;have A5:ps.getLast?=some ps[j]:=(by rw[List.getLast?_eq_getElem?,hj,Nat.add_sub_cancel,List.getElem?_eq_getElem A3]);have Aa:=HV.a.clear _ A5;have eL:oF ps ps.length=(ps[j].n:Int):=(by rw[hj];exact(vN A3).symm);have R:128*ps[j].n<size:=(by unfold Sp.nb at q2;omega);generalize ps[j]=p at*;obtain⟨pn,pv,pl⟩:=p;simp only at hB J Aa R x0 x1 q2 eL;rw[eL];obtain⟨A',c',rfl,A6,AR,_⟩:=hB.open_;have hcut:∀e:Nat,e<=128->∃A2 c2,(∀W,(Instr.slice 23 (.slice A' 128 c') (some (i6 (e:Int))) none none).run prog W=.ok (.slice A2 (pl.drop e).length c2) W)/\Bs wr wr.heap.size (.slice A2 (pl.drop e).length c2) (pl.drop e):=λe he=>(by obtain⟨A2,c2,h1,h2⟩:=s' (k:=e) hB om (e:Int) rfl;rw[J]at h1;exact⟨A2,c2,h1,h2⟩);rw[J]at x1;rw[show off+(j*2+1)=off+j*2+1 by omega]at x1;have A7:=ja hcut;have Aw:=ja Aa;have Ax:=ja J;have Aq:=ja (b0.trans (hb.mono b0.size));have B1:b<wr.heap.size:=Nat.lt_of_lt_of_le A9 hb.size;have m1: (0:Int)<=(pn:Int)*128:=(by omega);have m2: (pn:Int)*128<=463488:=(by omega);have m3: (0:Int)<(size:Int)-(pn:Int)*128:=(by omega);rw[hj]at A1 hk|-;clear hcut Aa J hb U eL A5 A4 hB I q2 A3 hz hk;by_cases hE:size<=128*pn+128
    ·obtain⟨e,he⟩:∃e:Nat,(size:Int)-(pn:Int)*128=e:=⟨size-128*pn,by omega⟩;have Ab: (e:Int)<=128:=(by omega);obtain⟨A2,c2,Ad,o⟩:=A7.a e om;rw[List.length_drop]at o;have Ae:=ja o;have B':=ja he;clear o;(go_wp2_with fail);refine(qD _ _ wr _ Ae.a (λi hi=>?_)).mono ?_
     ·rw[List.getD_eq_getElem?_getD,List.getElem?_drop,<-List.getD_eq_getElem?_getD];exact Aw.a _ (oa B'.a)
     rintro e9 w9 ⟨rfl,rfl⟩;clear he Ab hE R m1 m2 m3 x0 x1 A0 A1 A6 AR Ad hj h1 h2 hl hc hm Ah kf k1;go_wp2;go_ret;exact⟨rfl,Aq.a⟩
    ·have Ab: (128:Int)<(size:Int)-(pn:Int)*128:=(by omega);obtain⟨A2,c2,Ad,o⟩:∃A2 c2,(∀W,(Instr.slice 23 (.slice A' 128 c') (some (i6 128)) none none).run prog W=.ok (.slice A2 (pl.drop 128).length c2) W)/\Bs wr wr.heap.size (.slice A2 (pl.drop 128).length c2) (pl.drop 128):=A7.a 128 om;rw[List.length_drop]at o;have Ae:=ja o;clear o;(go_wp2_with fail);refine(qD _ _ wr _ Ae.a (λi hi=>?_)).mono ?_
     ·rw[List.length_drop,Ax.a]at hi;omega
     rintro e9 w9 ⟨rfl,rfl⟩;clear Ab hE R m1 m2 m3 x0 x1 A0 A1 A6 AR Ad hj h1 h2 hl hc hm Ah kf k1;go_wp2;go_ret;exact⟨rfl,Aq.a⟩
end Sq
namespace Sq
open Go.RowKit
def nw:List Pc->Nat->Nat
 |[],_=>0
 |p::r,n=>if p.n<n then nw r n+1 else 0
theorem tG:∀(ps:List Pc) (n:Nat),nw ps n<=ps.length
 |[],_=>Nat.le_refl _
 |p::r,n=>by unfold nw;have:=tG r n;rw[List.length_cons];split<;>omega
theorem sI:∀{ps:List Pc} {n:Nat},(ps.Pairwise λp q=>p.n<q.n)->∀(k:Nat) (hk:k<ps.length),k<nw ps n↔ps[k].n<n
 |[],_,_,k,hk=>by simp at hk
 |p::r,n,h,0,_=>by
  unfold nw;show _↔p.n<n;split
  ·rename_i h1;exact⟨λ_=>h1,λ_=>by omega⟩
  ·rename_i h1;exact⟨λh2=>by omega,λh2=>absurd h2 h1⟩
 |p::r,n,h,k+1,hk=>by
  obtain⟨hp,I⟩:=List.pairwise_cons.1 h;have J:=sI (n:=n) I k (by simpa using hk);unfold nw;show _↔(r[k]'(by simpa using hk)).n<n;split
  ·rw[<-J];omega
  ·rename_i h1;have:=hp _ (List.getElem_mem (show k<r.length by simpa using hk));constructor
   ·intro h2;omega
   ·intro h2;omega
section
variable {w:World}
theorem BD (A:Option Addr) (c b1 b2:Nat) (ps:List Pc) (n k:Nat) (z:Int) (hz:z=k) (w:World) (hc:fj w w.heap.size (.slice A ps.length c) ps) (h2:w.cell? (ae b1 1)=some (.slice A ps.length c)) (h3:w.cell? (ae b2 0)=some (i6 (n:Int))) (hk:k<ps.length):
 Calls prog 176 #[i6 z,pt b1 0,pt b2 0] w λe w'=>e=.returned (.bool (decide ((n:Int)<=(ps[k].n:Int))))/\Bw w w':=by
 subst hz;obtain⟨_,_,J,_,_,I⟩:=hc.open_;cases J;obtain⟨b,off,rfl,R,x0,x1⟩:=I k hk;clear I hc x1;generalize(ps[k].n:Int)=pn at*;have k0: (0:Int)<=(k:Int):=by omega
 have k1: (k:Int)<(ps.length:Int):=by omega
 go_enter func176,ntmps176;go_wp2_with fail
 go_quiet (fail);go_wp2;go_ret;exact⟨rfl,below_drewN bh _⟩
theorem gh (A:Option Addr) (c b1 b2:Nat) (ps:List Pc) (n:Nat) (z:Int) (hz:z=ps.length) (w:World) (hc:fj w w.heap.size (.slice A ps.length c) ps) (h2:w.cell? (ae b1 1)=some (.slice A ps.length c)) (h3:w.cell? (ae b2 0)=some (i6 (n:Int))) (l1:b1<w.heap.size) (l2:b2<w.heap.size) (hp:ps.Pairwise λp q=>p.n<q.n) (hlc:ps.length<=100000):
 Calls prog 175 #[i6 z,.func (.func 176) #[] #[pt b1 0,pt b2 0]] w λe w'=>e=.returned (i6 (nw ps n:Nat))/\Bw w w':=by
 subst hz;have U:=tG ps n;have HP:=ja (λk (hk:k<ps.length)=>sI (n:=n) hp k hk);have HE:=ja hc;have H2:=ja h2;have H3:=ja h3;obtain⟨q,hq⟩:=ex (nw ps n);rw[hq]at U HP|-;clear hq hp hc h2 h3;go_enter func175,ntmps175;go_wp2;go_loopw [5,6] (λt5 t6 wr=>∃i j:Nat,t5=i6 i/\t6=i6 j/\i<=q/\q<=j/\j<=ps.length/\Bw w wr) (λt5 t6 _=>(intOf t6).toNat-(intOf t5).toNat)
 case atStart=>exact⟨0,ps.length,rfl,rfl,Nat.zero_le _,U,Nat.le_refl _,Below.refl _ _⟩
 case round=>
  obtain⟨i,j,rfl,rfl,hi,hj,A',I⟩:=hrel;by_cases A1:i<j
  ·(go_wp2_with fail);obtain⟨h,hh⟩:∃h:Nat,((i:Int)+(j:Int))/2=h:=⟨(i+j)/2,by omega⟩;have A2:i<=h/\h<j:=(by omega);simp only[hh];clear hh;refine(BD A c b1 b2 ps n h _ rfl wr (HE.a.up I) (cl I l1 H2.a) (cl I l2 H3.a) om).mono ?_;rintro e w5 ⟨rfl,b5⟩;have J:=HP.a h om;replace I:=I.trans (b5.mono I.size);clear b5;generalize A0:ps[h].n=pn at*;clear A0;by_cases o: (n:Int)<=(pn:Int)
   ·have R:q<=h:=by
     rcases Nat.lt_or_ge h q with h9|h9
     ·have:=J.1 h9;omega
     ·exact h9
    rw[decide_eq_true o];clear J o;go_wp2;go_roundw;case rel=>exact⟨i,h,rfl,rfl,hi,R,by omega,I⟩
    case measure=>exact ms
   ·have R:h+1<=q:=J.2 om;rw[decide_eq_false o];clear J o;go_wp2;go_roundw;case rel=>exact⟨h+1,j,by go_num,rfl,R,hj,A',I⟩
    case measure=>exact ms
  ·obtain rfl:i=q:=(by omega);obtain rfl:i=j:=(by omega);go_wp2;go_ret;exact⟨rfl,I⟩
theorem cN (v:Value) (ps:List Pc) (sz:Int) (n:Nat) (z:Int) (hz:z=n) (w:World) (hc:fj w w.heap.size v ps) (hp:ps.Pairwise λp q=>p.n<q.n) (hlc:ps.length<=100000):
 Calls prog 127 #[.agg #[i6 sz,v],i6 z] w λe w'=>e=.returned (i6 (nw ps n:Nat))/\Bw w w':=by
 subst hz;obtain⟨A,c,rfl,_,_,_⟩:=hc.open_;have H:=ja hc;have J:=ja hp;clear hc hp;have R:∀(fn:Fn) (first cap:Array Value) (w:World),(Instr.makeFunc fn first cap).run prog w=.ok (.func fn first cap) w:=λ_ _ _ _=>rfl;go_enter func127,ntmps127;go_wp2_with fail
 have I:Bw w ((w.alloc (.cells #[i6 sz,.slice A ps.length c] 158)).alloc (.cells #[i6 (n:Int)] 3)):=(bh.alloc lh _).alloc sj _;have k1:=(ak.new w 158 #[i6 sz,.slice A ps.length c]).alloc (.cells #[i6 (n:Int)] 3);have k2:=ak.new (w.alloc (.cells #[i6 sz,.slice A ps.length c] 158)) 3 #[i6 (n:Int)];rw[World.size_alloc]at k2;refine(gh A c w.heap.size (w.heap.size+1) ps n _ rfl _ (H.a.up I) (k1.cell 1) (k2.cell 0) k1.lt k2.lt J.a hlc).mono ?_;rintro e j ⟨rfl,b5⟩;have U:=ja (I.trans (b5.mono I.size));clear I b5 k1 k2;go_wp2;go_ret;exact⟨rfl,U.a⟩
end
end Sq
namespace Crc
def half (n:Nat):Nat:=[0,274646895,549293790,820201905,1098587580,1361435347,1640403810,1905808397,2197175160,2460548119,2722870694,2987750089,3280807620,3553878443,3811616794,4084100981].getD n 0
def K' (x:Nat):Nat:=x/16^^^half (x&&&15)
def Nz (x:Nat) (c:UInt8):Nat:=K' (K' (x^^^c.toNat))
def run (x:Nat) (l:List UInt8):Nat:=l.foldl Nz x
def sum (l:List UInt8):Nat:=4294967295^^^run 4294967295 l
theorem AZ (k:Nat):half k<4294967296:=by
 by_cases h:k<16
 ·have:∀k:Fin 16,half k<4294967296:=(by decide);exact this ⟨k,h⟩
 ·unfold half;rw[List.getD_eq_getElem?_getD,List.getElem?_eq_none (by simpa using h)];simp
theorem yY (x:Nat) (h:x<4294967296):K' x<4294967296:=Nat.xor_lt_two_pow (n:=32) om (AZ _)
theorem KF (x:Nat) (c:UInt8) (h:x<4294967296):Nz x c<4294967296:=yY _ (yY _ (Nat.xor_lt_two_pow (n:=32) h (oa c.toNat_lt)))
theorem yb (l:List UInt8):∀(x:Nat),x<4294967296->run x l<4294967296:=by
 induction l with
 |nil=>exactλx h=>h
 |cons c l ih=>exactλx h=>ih _ (KF x c h)
theorem lD (l:List UInt8):sum l<4294967296:=Nat.xor_lt_two_pow (n:=32) om (yb l _ om)
theorem D' (x:Nat) (l:List UInt8) (j:Nat) (h:j<l.length):run x (l.take (j+1))=Nz (run x (l.take j)) l[j]:=by unfold run;rw[List.take_succ_eq_append_getElem h,List.foldl_append];rfl
theorem IH (x:Nat) (l m:List UInt8):run x (l++m)=run (run x l) m:=List.foldl_append
theorem Cr (ls:List (List UInt8)) (k:Nat) (h:k<ls.length): (ls.take (k+1)).flatten=(ls.take k).flatten++ls[k]:=by rw[List.take_succ_eq_append_getElem h,List.flatten_append];simp only[List.flatten_cons,List.flatten_nil,List.append_nil]
def gN (n:Nat):List UInt8:=[UInt8.ofNat n,UInt8.ofNat (n/256),UInt8.ofNat (n/65536),UInt8.ofNat (n/16777216)]
def pad (n:Nat) (l:List UInt8):List UInt8:=l++List.replicate (n-l.length) 0
def bR (l:List UInt8):List UInt8:=pad 124 l++gN (sum (pad 124 l))
def held (l:List UInt8):Bool:=l.length==128&&l.drop 124==gN (sum (l.take 124))
def arr (l:List UInt8) (S k:Nat):List UInt8:=pad 124 l++((gN S).take k++List.replicate (4-k) 0)
theorem DE (l:List UInt8) (h:l.length<=124): (pad 128 l).take 124=pad 124 l:=by unfold pad;rw[List.take_append,List.take_of_length_le h,List.take_replicate];congr 2;omega
theorem EH (l:List UInt8) (S:Nat) (h:l.length<=124):arr l S 0=pad 128 l:=by unfold arr pad;rw[List.take_zero,List.nil_append,List.append_assoc,List.replicate_append_replicate];congr 2;omega
theorem Fc (l:List UInt8):arr l (sum (pad 124 l)) 4=bR l:=by unfold arr bR;simp[gN]
theorem Fa (l:List UInt8) (S k:Nat) (h:l.length<=124) (hk:k<4) (x:UInt8) (hx:x.toNat=S/256^k%256): (arr l S k).set (124+k) x=arr l S (k+1):=by
 have e: (pad 124 l).length=124:=by unfold pad;rw[List.length_append,List.length_replicate];omega
 have I:x=(gN S).getD k 0:=by
  apply UInt8.toNat_inj.1;rw[hx]
  match k,hk with
  |0,_=>simp[gN]
  |1,_=>simp[gN]
  |2,_=>simp[gN]
  |3,_=>simp[gN]
 unfold arr;rw[List.set_append_right _ _ om,e,Nat.add_sub_cancel_left,I];congr 1
 match k,hk with
 |0,_=>rfl
 |1,_=>rfl
 |2,_=>rfl
 |3,_=>rfl
theorem zg (l:List UInt8) (S k:Nat) (h:l.length<=124) (hk:k<=4): (arr l S k).length=128:=by unfold arr pad;simp[gN];omega
theorem dA (n:Nat) (l:List UInt8) (h:l.length<=n): (pad n l).length=n:=by unfold pad;rw[List.length_append,List.length_replicate];omega
theorem bH (l:List UInt8) (h:l.length<=124): (bR l).length=128:=by unfold bR;rw[List.length_append,dA 124 l h];rfl
theorem wN (l:List UInt8) (h:l.length<=124):held (bR l)=true:=by
 unfold held;rw[bH l h];have e: (pad 124 l).length=124:=dA 124 l h;have I: (bR l).take 124=pad 124 l:=by unfold bR;exact List.take_left' e
 have J: (bR l).drop 124=gN (sum (pad 124 l)):=by unfold bR;exact List.drop_left' e
 rw[I,J];simp
def Iz (l:List UInt8) (S k:Nat):Prop:=∀j,j<k->(l.getD (124+j) 0).toNat=S/256^j%256
theorem rM (S j:Nat) (h:j<4): ((gN S).getD j 0).toNat=S/256^j%256:=by
 match j,h with
 |0,_=>simp[gN]
 |1,_=>simp[gN]
 |2,_=>simp[gN]
 |3,_=>simp[gN]
theorem tU (l:List UInt8) (hl:l.length=128):held l=true↔Iz l (sum (l.take 124)) 4:=by
 have U: (l.drop 124).length=4:=by rw[List.length_drop];omega
 generalize hS:sum (l.take 124)=S;have R:∀j,(l.drop 124).getD j 0=l.getD (124+j) 0:=λj=>by simp[List.getD_eq_getElem?_getD]
 constructor
 ·intro h j I;unfold held at h;rw[hl,hS]at h;have hd:l.drop 124=gN S:=(by simpa using h);rw[<-R,hd];exact rM S j I
 ·intro h;have hd:l.drop 124=gN S:=by
   apply List.ext_getElem? λj=>?_;by_cases I:j<4
   ·have e: (l.drop 124).getD j 0=(gN S).getD j 0:=(by apply UInt8.toNat_inj.1;rw[R,rM S j I];exact h j I);have J:j<(gN S).length:=I;rw[List.getD_eq_getElem?_getD,List.getD_eq_getElem?_getD,List.getElem?_eq_getElem om,List.getElem?_eq_getElem J]at e;rw[List.getElem?_eq_getElem om,List.getElem?_eq_getElem J];simpa using e
   ·have J: (gN S).length=4:=rfl;rw[List.getElem?_eq_none om,List.getElem?_eq_none om]
  unfold held;rw[hl,hS,hd];simp
theorem Iz.succ {l:List UInt8} {S k:Nat} (h:Iz l S k) (e: (l.getD (124+k) 0).toNat=S/256^k%256):Iz l S (k+1):=by
 intro j J;by_cases I:j=k
 ·rw[I];exact e
 ·exact h j om
theorem Iz.no {l:List UInt8} {S k:Nat} (hk:k<4) (e: (l.getD (124+k) 0).toNat≠S/256^k%256):¬Iz l S 4:=λh=>e (h k hk)
end Crc
end Go.Proofs.YtdhgejiacehpbaaGreatDoor
