/- Texts of one claim, laid together: Reg2 Rn -/
import Derived.Laws.ResultCell
import Derived.Test.YtmcndlofaanjiaaGreatJo03
import Derived.Test.YtmcndlofaanjiaaGreatJo06
/- A region whose order is open,by facts that may name what their operation waits for. -/
namespace Go.Proofs.YtmcndlofaanjiaaGreat
open Go.RowKit
set_option linter.unusedVariables false
set_option maxRecDepth 100000
set_option maxHeartbeats 8000000
abbrev BQ:=List Value→Value→World→Prop
def IsD (c:Value):BQ:=fun _ v _=>v=c
theorem IsD.mk (c:Value) (us:List Value) (w:World):IsD c us c w:=rfl
theorem IsD.m {c:Value} {us:List Value} {w:World}:IsD c us c w:=IsD.mk c us w
def B6 (d:List Nat) (vs:List Value):List Value:=d.map fun k=>(vs[k]?).getD undef
def AH (Φ:List BQ) (ds:List (List Nat)) (vs:List Value) (w:World) (j:Nat):Prop :=
 match Φ[j]?,ds[j]?,vs[j]? with
 | some φ,some d,some v=>φ (B6 d vs) v w
 | _,_,_=>True
def Ej (R:World→World→Prop):List BQ→Prop
 | []=>True
 | φ::φs=>(∀ us v w w',R w w'→φ us v w→φ us v w')∧Ej R φs
theorem Ej.use {R:World→World→Prop}:∀ {Φ:List BQ},Ej R Φ→∀ φ∈Φ,∀ us v w w',R w w'→φ us v w→φ us v w'
 | φ::φs,h,ψ,hm=>by
  rcases List.mem_cons.1 hm with rfl | hm
  ·exact h.1
  ·exact Ej.use h.2 ψ hm
theorem StD.is {R:World→World→Prop} {c:Value}:∀ us v w w',R w w'→IsD c us v w→IsD c us v w':=fun _ _ _ _ _ h=>h
def AU (Φ:List BQ) (ds:List (List Nat)) (vs:List Value) (w:World):List Nat→Prop→Prop
 | [],p=>p
 | j::js,p=>AH Φ ds vs w j→AU Φ ds vs w js p
theorem AU.use {Φ:List BQ} {ds:List (List Nat)} {vs:List Value} {w:World} {p:Prop}:∀ {js:List Nat},AU Φ ds vs w js p→(∀ j∈js,AH Φ ds vs w j)→p
 | [],h,_=>h
 | j::js,h,hf=>AU.use (h (hf j (by simp))) fun k hk=>hf k (by simp[hk])
section
variable (P:Program) (ops:Array Oper) (Q:Exit→Act→World→Prop) (R:World→World→Prop) (w0:World) (Φ:List BQ) (dsA:List (List Nat)) (A:List Value→Act) (vs:List Value)
def Hr:Nat→List Oper→List BQ→List (List Nat)→Prop
 | i,o::os,φ::φs,d::ds=>(∀ w,R w0 w→AU Φ dsA vs w d (∀ K:Act→World→Prop,(∀ v w',R w w'→φ (B6 d vs) v w'→K (A (vs.set i v)) w') →
   if Region.wanted o (yielded ops (A vs).tmps)=true then o.wp P (A vs) w K Q else K (A (vs.set i undef)) w))∧Hr (i+1) os φs ds
 | _,_,_,_=>True
def AE (w:World) (full:List Value):List BQ→List (List Nat)→List Value→Prop→Prop
 | φ::φs,d::ds,v::vs,p=>φ (B6 d full) v w→AE w full φs ds vs p
 | _,_,_,p=>p
end
theorem Hr.use {P ops Q R w0 Φ dsA A vs}:∀ {os:List Oper} {n:Nat} {φs:List BQ} {ds:List (List Nat)},Hr P ops Q R w0 Φ dsA A vs n os φs ds→∀ (i:Nat) (o:Oper) (φ:BQ) (d:List Nat),os[i]?=some o→φs[i]?=some φ→ds[i]?=some d →
  ∀ w,R w0 w→AU Φ dsA vs w d (∀ K:Act→World→Prop,(∀ v w',R w w'→φ (B6 d vs) v w'→K (A (vs.set (n+i) v)) w') →
   if Region.wanted o (yielded ops (A vs).tmps)=true then o.wp P (A vs) w K Q else K (A (vs.set (n+i) undef)) w)
 | o::os,n,φ::φs,d::ds,h,0,o',φ',d',ho,hφ,hd=>by
  simp only[List.getElem?_cons_zero,Option.some.injEq] at ho hφ hd
  subst ho hφ hd
  exact h.1
 | o::os,n,φ::φs,d::ds,h,i+1,o',φ',d',ho,hφ,hd=>by
  have:=Hr.use h.2 i o' φ' d' (by simpa using ho) (by simpa using hφ) (by simpa using hd)
  rw[show n+1+i=n+(i+1) by omega] at this
  exact this
 | [],_,_,_,_,_,_,_,_,ho,_,_=>by simp at ho
 | _::_,_,[],_,_,_,_,_,_,_,hφ,_=>by simp at hφ
 | _::_,_,_::_,[],_,_,_,_,_,_,_,hd=>by simp at hd
theorem AE.use {w:World} {full:List Value} {p:Prop}:∀ {φs:List BQ} {ds:List (List Nat)} {vs:List Value},AE w full φs ds vs p→(∀ (i:Nat) (φ:BQ) (d:List Nat) (v:Value),φs[i]?=some φ→ds[i]?=some d→vs[i]?=some v→φ (B6 d full) v w)→p
 | φ::φs,d::ds,v::vs,h,hf=>AE.use (h (hf 0 φ d v rfl rfl rfl)) fun i φ' d' v' h1 h2 h3=>hf (i+1) φ' d' v' (by simpa using h1) (by simpa using h2) (by simpa using h3)
 | [],_,_,h,_=>h
 | _::_,[],_,h,_=>h
 | _::_,_::_,[],h,_=>h
theorem DT {d:List Nat} {vs:List Value} {i:Nat} {v:Value} (h:∀ j∈d,j≠i):B6 d (vs.set i v)=B6 d vs:=by
 unfold B6
 refine List.map_congr_left fun j hj=>?_
 rw[List.getElem?_set_ne (Ne.symm (h j hj))]
def Eq (ops:Array Oper) (listed:Array Bool):Prop:=∀ (k:Nat) (o:Oper),listed.getD k false=true→ops[k]?=some o→∀ e∈o.after,Region.binds .any e=true→listed.getD e.on false=true
theorem Eq.set {ops:Array Oper} {listed:Array Bool} {i:Nat} {o:Oper} (h:Eq ops listed) (hi:i<listed.size) (ho:ops[i]?=some o) (hall:∀ e∈o.after,Region.binds .any e=true→listed.getD e.on false=true):Eq ops (listed.setIfInBounds i true):=by
 intro k o' hk ho' e he hb
 have hin:(listed.setIfInBounds i true).getD i false=true:=by simp[hi]
 have up:∀ j,listed.getD j false=true→(listed.setIfInBounds i true).getD j false=true:=by
  intro j hj
  by_cases hji:j=i
  ·subst hji;exact hin
  ·rwa [getD_set_ne false (fun e=>hji e.symm)]
 by_cases hki:k=i
 ·subst hki
  rw[ho] at ho'
  injection ho' with ho'
  subst ho'
  exact up _ (hall e he hb)
 ·rw[getD_set_ne false (fun e=>hki e.symm)] at hk
  exact up _ (h k o' hk ho' e he hb)
section
variable {P:Program} {Q:Exit→Act→World→Prop} {R:World→World→Prop} {Φ:List BQ} {ds:List (List Nat)} {a0:Act} {w0:World} {l:List Oper} {m:Nat}
theorem facts_set {ops:Array Oper} {listed:Array Bool} {vs:List Value} {i:Nat} {v:Value} {w w':World} {φ:BQ} {d:List Nat} {M:Nat} (hst:Ej R Φ) (hφ:Φ[i]?=some φ) (hd:ds[i]?=some d) (hi:i<vs.length) (hR:R w w')
  (hv:φ (B6 d vs) v w') (hcl:Eq ops listed) (hnl:listed.getD i true=false) (hfw:∀ j∈d,j≠i)
  (hdep:∀ k dk,k<M→ds[k]?=some dk→listed.getD k false=true→∀ j∈dk,listed.getD j false=true)
  (hf:∀ k,k<M→listed.getD k false=true→AH Φ ds vs w k):∀ k,k<M→(listed.setIfInBounds i true).getD k false=true→AH Φ ds (vs.set i v) w' k:=by
 intro k hkM hk
 by_cases hki:k=i
 ·subst hki
  have hsv:(vs.set k v)[k]?=some v:=List.getElem?_set_self hi
  rw[AH,hφ,hd,hsv]
  show φ (B6 d (vs.set k v)) v w'
  rw[DT hfw]
  exact hv
 ·rw[getD_set_ne false (fun e=>hki e.symm)] at hk
  have h4:=hf k hkM hk
  have hsv:(vs.set i v)[k]?=vs[k]?:=by simp[Ne.symm hki]
  unfold AH at h4 ⊢
  rw[hsv]
  cases hk1:Φ[k]? with
  | none=>trivial
  | some φ' =>
   cases hk3:ds[k]? with
   | none=>trivial
   | some dk =>
    cases hk2:vs[k]? with
    | none=>trivial
    | some u =>
     simp only[hk1,hk2,hk3] at h4 ⊢
     rw[DT (fun j hj e=>by
      subst e
      have:=hdep k dk hkM hk3 hk j hj
      rw[Array.getD_eq_getD_getElem?] at this hnl
      cases hh:listed[j]? with
      | none=>rw[hh] at hnl;cases hnl
      | some b=>rw[hh] at this hnl;simp at this hnl;rw[this] at hnl;cases hnl)]
     exact hst.use φ' (List.mem_of_getElem? hk1) _ u w w' hR h4
theorem Du {A:List Value→Act} (hA:∀ vs:List Value,vs.length=(l.take m).length→A vs=Am (l.take m) vs a0) (hok:CZ (l.take m).toArray ds=true) (hΦ:Φ.length=(l.take m).length) (htl:Cq l.toArray m=true) (htr:∀ a b c,R a b→R b c→R a c) (hst:Ej R Φ)
  (h:AR (l.take m) fun vs=>Hr P l.toArray Q R w0 Φ ds A vs 0 (l.take m) Φ ds∧∀ w,R w0 w→AE w vs Φ ds vs (wpList P l.toArray Q (l.drop m) (A vs) w)) :
  ∀ (f:Nat) (listed:Array Bool) (a:Act) (w:World),HeadInv .any l.toArray m listed→Eq l.toArray listed→unl m listed=f→R w0 w →
   (∃ vs:List Value,vs.length=(l.take m).length∧a=A vs∧∀ i,i<m→listed.getD i false=true→AH Φ ds vs w i)→wpAny P .any l.toArray Q (f+(l.toArray.size - m)) listed a w:=by
 simp only[Cq,Bool.and_eq_true,decide_eq_true_eq] at htl
 obtain⟨⟨⟨hm,hsink⟩,hchain⟩,hseq⟩:=htl
 have hml:m<l.length:=by simpa using hm
 have htk:(l.take m).length=m:=by simp;omega
 have hget:∀ i,i<m→(l.take m).toArray[i]?=l.toArray[i]?:=fun i hi=>by simp[hi]
 simp only[CZ,Bool.and_eq_true,beq_iff_eq,decide_eq_true_eq] at hok
 obtain⟨⟨⟨hdl,hnd⟩,hfw⟩,hdp⟩:=hok
 have hsz:(l.take m).toArray.size=m:=by simp;omega
 rw[hsz] at hfw hdp hdl
 have hnd:((l.take m).filterMap (·.dst)).Nodup:=by simpa using hnd
 have hready:∀ (listed:Array Bool),HeadInv .any l.toArray m listed→(∃ i,i<m∧listed.getD i true=false)→Region.ready .any l.toArray listed≠[]:=by
  rintro listed inv ⟨i,hi,hb⟩
  induction i using Nat.strongRecOn with
  | _ i ih =>
   by_cases hex:∃ j,j<i∧listed.getD j true=false
   ·obtain⟨j,hj,hb'⟩:=hex
    exact ih j hj (by omega) hb'
   ·have hin:i<l.toArray.size:=by omega
    have hmem:i∈Region.ready .any l.toArray listed:=by
     refine mem_ready.2 ⟨hb,l.toArray[i],by simp at hin;simp[hin],fun e he hbd=>?_⟩
     have h1:=List.all_eq_true.1 hfw i (by simpa using hi)
     rw[hget i hi,Array.getElem?_eq_getElem hin] at h1
     have h2:=Array.all_eq_true_iff_forall_mem.1 h1 e he
     simp only[hbd,Bool.not_true,Bool.false_or,decide_eq_true_eq] at h2
     cases hl:listed.getD e.on false with
     | true=>rfl
     | false =>
      exact absurd ⟨e.on,h2,getD_in (by rw[inv.size];omega) hl⟩ hex
    intro h0
    rw[h0] at hmem
    cases hmem
 -- what an operation's facts lean on are edges of it
 have hedge:∀ k dk o,k<m→ds[k]?=some dk→l.toArray[k]?=some o→∀ j∈dk,∃ e∈o.after,Region.binds .any e=true∧e.on=j∧j<k:=by
  intro k dk o hk hd ho j hj
  have h2:=List.all_eq_true.1 hdp k (by simpa using hk)
  rw[hget k hk,ho,hd] at h2
  simp only at h2
  have h3:=List.all_eq_true.1 h2 j hj
  obtain⟨e,he,hb⟩:=Array.any_eq_true'.1 h3
  simp only[Bool.and_eq_true,beq_iff_eq] at hb
  have h4:=List.all_eq_true.1 hfw k (by simpa using hk)
  rw[hget k hk,ho] at h4
  have h5:=Array.all_eq_true_iff_forall_mem.1 h4 e he
  simp only[hb.1,Bool.not_true,Bool.false_or,decide_eq_true_eq] at h5
  exact⟨e,he,hb.1,hb.2,by rw[← hb.2];exact h5⟩
 intro f
 induction f with
 | zero =>
  intro listed a w inv hcl hu hw ⟨vs,hl,ha,hf⟩
  subst ha
  have hall:∀ i,i<m→listed.getD i false=true:=fun i hi=>by
   have hlt:i<listed.toList.length:=by simp[inv.size];simp at hm;omega
   have h0:=List.countP_eq_zero.1 hu (listed.toList[i]) (List.mem_of_getElem? (i:=i) (by rw[List.getElem?_take_of_lt hi,List.getElem?_eq_getElem hlt]))
   simp at hlt
   simp[hlt] at h0 ⊢
   exact h0
  have hle:listed=(List.replicate m true++List.replicate (l.toArray.size - m) false).toArray:=by
   apply Array.ext
   ·rw[inv.size];simp;omega
   ·intro i h1 h2
    by_cases hi:i<m
    ·have:=hall i hi
     simp[h1] at this
     rw[this]
     simp[hi]
    ·have:=inv.tail i (by omega) (by rw[← inv.size];exact h1)
     simp[h1] at this
     rw[this,List.getElem_toArray,List.getElem_append_right (by simp;omega)]
     simp
  have hq:=((h.use vs (by simpa using hl)).2 w hw).use (fun i φ d v h1 h2 h3=>by
   have hi:i<m:=by have:=(List.getElem?_eq_some_iff.1 h1).1;omega
   have:=hf i hi (hall i hi)
   rw[AH,h1,h2,h3] at this
   exact this)
  have:=wpAny_of_seq (md:=.any) (Q':=Q) (ops:=l.toArray) (l.drop m) m listed _ w (fun j=>by simp[List.getElem?_drop]) (by rw[hle];simpa using hseq) hq
  simpa using this
 | succ f ih =>
  intro listed a w inv hcl hu hw ⟨vs,hl,ha,hf⟩
  subst ha
  have hex:∃ i,i<m∧listed.getD i true=false:=by
   have hp:0<(listed.toList.take m).countP (fun b=>!b):=by unfold unl at hu;omega
   obtain⟨b,hb,hbf⟩:=List.countP_pos_iff.1 hp
   obtain⟨i,hi,rfl⟩:=List.getElem_of_mem hb
   simp only[List.length_take] at hi
   refine⟨i,by omega,?_⟩
   have hi2:i<listed.size:=by simp at hi;omega
   simp at hbf
   simp[hi2,hbf]
  rw[show f+1+(l.toArray.size - m)=(f+(l.toArray.size - m))+1 by omega]
  refine⟨fun hr=>absurd hr (hready listed inv hex),fun i hi=>?_⟩
  have him:i<m:=by
   obtain⟨i0,hi0,hb0⟩:=hex
   rcases Nat.lt_or_ge i m with h' | h'
   ·exact h'
   ·exact absurd hi (tail_waits hsink hchain hm inv _ i0 rfl hi0 hb0 i h')
  obtain⟨h0,o,ho,hall⟩:=mem_ready.1 hi
  have hlt:i<listed.size:=by rw[inv.size];omega
  have ho':(l.take m)[i]?=some o:=by
   have:=hget i him
   rw[ho] at this
   simpa using this
  obtain⟨φ,hφ⟩:∃ φ,Φ[i]?=some φ:=⟨Φ[i]'(by omega),by simp⟩
  obtain⟨d,hd⟩:∃ d,ds[i]?=some d:=⟨ds[i]'(by omega),by simp⟩
  have hO0:=(h.use vs (by simpa using hl)).1.use i o φ d ho' hφ hd w hw
  rw[Nat.zero_add] at hO0
  have hO:=hO0.use (fun j hj=>by
   obtain⟨e,he,hb,hej,hlt⟩:=hedge i d o him hd ho j hj
   rw[← hej]
   exact hf _ (by omega) (hall e he hb))
  have e:∀ v,A (vs.set i v)=(A vs).put o.dst v:=fun v=>by rw[hA _ (by simpa using hl),hA _ hl,BI _ _ _ _ _ _ hnd (by simpa using hl) ho']
  refine wpOp_step ho fun K hK=>?_
  suffices hs:∀ v w',R w w'→φ (B6 d vs) v w'→K (A (vs.set i v)) w' by
   have:=hO K hs
   rw[e] at this
   exact this
  intro v w' hR hv
  rw[e]
  refine hK _ _ ?_
  rw[← e]
  refine ih _ _ _ (inv.set hi him) (hcl.set hlt ho hall) ?_ (htr _ _ _ hw hR) ⟨vs.set i v,by simpa using hl,rfl,?_⟩
  ·have h1:(listed.toList.take m)[i]?=some false:=by
    rw[List.getElem?_take_of_lt him]
    simp[hlt] at h0 ⊢
    exact h0
   have:=BW _ _ h1
   unfold unl at hu ⊢
   have e:(listed.setIfInBounds i true).toList.take m=(listed.toList.take m).set i true:=by
    rw[← List.take_set]
    simp
   rw[e]
   omega
  ·exact facts_set (M:=m) hst hφ hd (by omega) hR hv hcl h0 (fun j hj=>by obtain⟨e,_,_,_,hlt⟩:=hedge i d o him hd ho j hj;omega)
    (fun k dk hk hdk hlk j hj=>by
     obtain⟨ok,hok⟩:∃ ok,l.toArray[k]?=some ok:=⟨l[k]'(by omega),by simp⟩
     obtain⟨e,he,hb,hej,_⟩:=hedge k dk ok hk hdk hok j hj
     rw[← hej]
     exact hcl k ok hlk hok e he hb) hf
theorem AW {id:Nat} (m n k:Nat) (R:World→World→Prop) (Φ:List BQ) (ds:List (List Nat)) (hm:P.follows .mixedOrders=true) (hok:CZ (l.take m).toArray ds=true) (hΦ:(Φ.length==(l.take m).length)=true) (htl:Cq l.toArray m=true)
  (hrow:Ih (l.take m) n k a0.tmps.size=true) (hrf:∀ a,R a a) (htr:∀ a b c,R a b→R b c→R a c) (hst:Ej R Φ)
  (h:AR (l.take m) fun vs=>Hr P l.toArray Q R w0.drew Φ ds (AD (l.take m) n k a0) vs 0 (l.take m) Φ ds∧∀ w,R w0.drew w→AE w vs Φ ds vs (wpList P l.toArray Q (l.drop m) (AD (l.take m) n k a0 vs) w)):(Code.region id l.toArray true).wp P Q a0 w0:=by
 refine wp_region_any hm ?_
 have hmt:=htl
 simp only[Cq,Bool.and_eq_true,decide_eq_true_eq] at hmt
 have hml:m<l.length:=by simpa using hmt.1.1.1
 obtain⟨vs,hl,he⟩:=BZ (l.take m) a0
 have inv0:HeadInv .any l.toArray m (Array.replicate l.toArray.size false) :=
  ⟨by simp,fun j oj _ hl=>(by rw[getD_replicate_false] at hl;cases hl),fun t _ ht=>getD_in (by simpa using ht) (getD_replicate_false _ _)⟩
 have hu:unl m (Array.replicate l.toArray.size false)=m:=by
  unfold unl
  rw[List.countP_eq_length.2 (fun b hb=>by
   have:=List.mem_of_mem_take hb
   simp at this
   rw[this.2];rfl)]
  simp;omega
 have hA:∀ vs:List Value,vs.length=(l.take m).length→AD (l.take m) n k a0 vs=Am (l.take m) vs a0:=fun vs hl=>Ch hrow hl
 have:=Du (a0:=a0) (w0:=w0.drew) (Q:=Q) (l:=l) (m:=m) hA hok (by simpa using hΦ) htl htr hst h
  m _ a0 w0.drew inv0 (fun k o hk=>by rw[getD_replicate_false] at hk;cases hk) hu (hrf _) ⟨vs,hl,by rw[hA vs hl,he],fun i hi hb=>by rw[getD_replicate_false] at hb;cases hb⟩
 rw[show m+(l.toArray.size - m)=l.toArray.size by simp;omega] at this
 exact this
end
def Ends (T:Nat) (c:Array Value) (o o':Obj):Prop:=o'=.cells c T (0,0)∧∃ cs:Array Value,o=.cells cs T (0,0)∧cs.size=c.size
structure Bx (B T:Nat) (c:Array Value) (T':Nat) (c':Array Value) (w w':World):Prop where
 os:w'.os=w.os
 tape:w'.tape=w.tape
 output:w'.output=w.output
 size:w.heap.size≤w'.heap.size
 block:∀ k,k<B→w'.heap[k]?=w.heap[k]?
 new:∀ k o,B≤k→w.heap[k]?=some o→w'.heap[k]?=some o∨(∃ o',w'.heap[k]?=some o'∧(Ends T c o o'∨Ends T' c' o o'))
section
variable {B T T':Nat} {c c':Array Value} {w w' w'':World}
def Slot (T n B:Nat) (v:Value) (W:World):Prop:=∃ g cs,v=.pointer (some ⟨g,0,none⟩)∧B≤g∧W.heap[g]?=some (.cells cs T (0,0))∧cs.size=n
end
structure Rn (L:List (Nat×Obj)) (w w':World):Prop where
 os:w'.os=w.os
 tape:w'.tape=w.tape
 output:w'.output=w.output
 size:w.heap.size≤w'.heap.size
 block:∀ k,k<w.heap.size→(∀ p∈L,p.1≠k)→w'.heap[k]?=w.heap[k]?
 at_:∀ p∈L,w'.heap[p.1]?=w.heap[p.1]?∨w'.heap[p.1]?=some p.2
section
variable {L:List (Nat×Obj)} {w w' w'':World}
theorem Rn.refl (w:World):Rn L w w:=⟨rfl,rfl,rfl,Nat.le_refl _,fun _ _ _=>rfl,fun _ _=>.inl rfl⟩
theorem Rn.r {L:List (Nat×Obj)} {w:World}:Rn L w w:=Rn.refl w
theorem Rn.trans (h:Rn L w w') (h':Rn L w' w''):Rn L w w'' :=
 ⟨h'.os.trans h.os,h'.tape.trans h.tape,h'.output.trans h.output,Nat.le_trans h.size h'.size,fun k hk hn=>(h'.block k (Nat.lt_of_lt_of_le hk h.size) hn).trans (h.block k hk hn),fun p hp=>by
  rcases h'.at_ p hp with h2 | h2
  ·rcases h.at_ p hp with h1 | h1
   ·exact .inl (h2.trans h1)
   ·exact .inr (h2.trans h1)
  ·exact .inr h2⟩
theorem Rn.heap (h:Rn L w w') {g:Nat} {o:Obj} (hg:w.heap[g]?=some o) (hne:∀ p∈L,p.1≠g):w'.heap[g]?=some o:=(h.block g (Ah hg) hne).trans hg
theorem Rn.in_ (h:Rn L w w') {p:Nat×Obj} (hp:p∈L) {o:Obj} (hg:w.heap[p.1]?=some o):w'.heap[p.1]?=some o∨w'.heap[p.1]?=some p.2:=(h.at_ p hp).imp (fun e=>e.trans hg) _root_.id
theorem Rn.store {g:Nat} {D:Obj} (hg:w.grownBy w' (some g)) (hm:(g,D)∈L) (h:w'.heap[g]?=some D) (hu:∀ p∈L,p.1=g→p.2=D) (hl:∀ p∈L,p.1<w.heap.size):Rn L w w' :=
 ⟨hg.os,hg.tape,hg.output,hg.size,fun k hk hn=>hg.block k hk (fun e=>by injection e with e;exact hn _ hm e.symm),fun p hp=>by
  by_cases e:p.1=g
  ·exact .inr (by rw[e,h,hu p hp e])
  ·exact .inl (hg.block _ (hl p hp) (fun e'=>by injection e' with e';exact e e'))⟩
theorem Rn.below (h:Rn L w w') {B:Nat} {w0:World} (hb:Below B w0 w) (hl:∀ p∈L,B≤p.1) (hB:B≤w.heap.size):Below B w0 w' :=
 ⟨h.os.trans hb.os,h.tape.trans hb.tape,h.output.trans hb.output,Nat.le_trans hb.size h.size,fun k hk=>(h.block k (Nat.lt_of_lt_of_le hk hB) (fun p hp e=>by have:=hl p hp;omega)).trans (hb.block k hk)⟩
end
theorem Hz {P:Program} {o:Oper} {a:Act} {w:World} {Q:Exit→Act→World→Prop} {K:Act→World→Prop} (ty:TypeId) (x y:Operand) (ho:o.op=.store ty x y) {g:Nat} (pre:List Value) {v old:Value} {post:List Value} {T:TypeId} (hx:a.eval x=.pointer (some ⟨g,pre.length,none⟩)) (hy:a.eval y=v)
  (hi:(P.info? ty).map (·.size)=some 1) (h1:v.oneCell'=true) (hg:w.heap[g]?=some (.cells (pre++(old::post)).toArray T (0,0)))
  (h:∀ w',w'.heap[g]?=some (.cells (pre++(v::post)).toArray T (0,0))→w.grownBy w' (some g)→K (a.put o.dst undef) w'):o.wp P a w K Q:=by
 have ht:w.there g pre.length [v].length:=fun j hj=>by
  obtain rfl:j=0:=by simp at hj;omega
  rw[Nat.add_zero,Ae hg,Ay hg,List.getElem?_toArray]
  simp
 have hc:v.cells=#[v]:=by cases v<;>first | rfl | cases h1
 have hr:=run_storeVar_mid (P:=P) w g pre.length ty #[v] (by simpa using ht) (by simpa using hi) (by simpa using h1)
 have hr':(storeVar ty ⟨g,pre.length,none⟩ v).run P w=.ok () (w.setCells g pre.length [v]):=by
  unfold storeVar at hr ⊢
  rw[hc]
  exact hr
 unfold Oper.wp execOp
 simp only[ho,hx,hy,Instr.storeAt,Instr.sureAddr,Sem.run_bind,Sem.run_pure,Result.andThen_ok,hr']
 refine h _ ?_ (Bh g _ _ w)
 have:=AZ g post [v] pre [old] w rfl hg
 simpa using this
theorem Ao {P:Program} {ops:Array Oper} {rest:List Oper} {o:Oper} {a:Act} {w:World} {Q:Exit→Act→World→Prop} (hgd:o.guard=none) (ty:TypeId) (x y:Operand) (ho:o.op=.store ty x y) {g:Nat} (pre:List Value) {v old:Value} {post:List Value} {T:TypeId} (hx:a.eval x=.pointer (some ⟨g,pre.length,none⟩)) (hy:a.eval y=v)
  (hi:(P.info? ty).map (·.size)=some 1) (h1:v.oneCell'=true) (hg:w.heap[g]?=some (.cells (pre++(old::post)).toArray T (0,0)))
  (h:∀ w',w'.heap[g]?=some (.cells (pre++(v::post)).toArray T (0,0))→w.grownBy w' (some g)→wpList P ops Q rest (a.put o.dst undef) w'):wpList P ops Q (o::rest) a w :=
 wpList_plain hgd fun _ hK=>Hz ty x y ho pre hx hy hi h1 hg fun w' h2 h3=>hK _ _ (h w' h2 h3)
structure Bb (P:Program) (W:World) (tmps:Array Value) (t:Tmp) (ty:TypeId) (v:Value):Prop where
 out:∃ g:Nat,tmps[t]?.getD undef=.pointer (some ⟨g,0,none⟩)∧(loadVar ty ⟨g,0,none⟩).run P W=.ok v W
theorem Bb.mk' {P:Program} {W:World} {tmps:Array Value} {t:Tmp} {ty T:TypeId} {g:Nat} {cs:List Value} {fr:Nat×Nat} {d:TypeDesc} (ht:tmps.getD t undef=.pointer (some ⟨g,0,none⟩)) (hg:W.heap[g]?=some (.cells cs.toArray T fr))
  (hu:P.underlying ty=some d) (hd:(match d with | .struct _ | .array _ _=>true | _=>false)=true) (hi:(P.info? ty).map (·.size)=some cs.length):Bb P W tmps t ty (.agg cs.toArray) :=
 ⟨g,by simpa using ht,run_loadVar_row (P:=P) W g T ty _ fr d hg hu hd (by simpa using hi)⟩
section
variable {P:Program} {f:Func} {Q:Ending→World→Prop} {W:World} {tmps:Array Value} {t u x y z:Tmp} {ty ty2:TypeId} {v v2 a b c:Value}
theorem ret_c (hr:f.results=#[.cell t ty]) (h:Bb P W tmps t ty v) (hQ:Q (.returned v) W):bodyPost P f Q .ret { tmps:=tmps,defers:=[] } W:=by
 obtain⟨g,h1,h2⟩:=h.out
 exact bodyPost_ret (v:=v) (by simp[results,hr,h1,asAddr,h2]) rfl hQ
theorem BN (hr:f.results=#[.cell t ty,.tmp x]) (h:Bb P W tmps t ty v) (hx:tmps.getD x undef=a) (hQ:Q (.returned (.tuple #[v,a])) W):bodyPost P f Q .ret { tmps:=tmps,defers:=[] } W:=by
 obtain⟨g,h1,h2⟩:=h.out
 have hx':tmps[x]?.getD undef=a:=by simpa using hx
 exact bodyPost_ret (v:=.tuple #[v,a]) (by simp[results,hr,h1,hx',asAddr,h2]) rfl hQ
theorem ret_ctt (hr:f.results=#[.cell t ty,.tmp x,.tmp y]) (h:Bb P W tmps t ty v) (hx:tmps.getD x undef=a) (hy:tmps.getD y undef=b) (hQ:Q (.returned (.tuple #[v,a,b])) W):bodyPost P f Q .ret { tmps:=tmps,defers:=[] } W:=by
 obtain⟨g,h1,h2⟩:=h.out
 have hx':tmps[x]?.getD undef=a:=by simpa using hx
 have hy':tmps[y]?.getD undef=b:=by simpa using hy
 exact bodyPost_ret (v:=.tuple #[v,a,b]) (by simp[results,hr,h1,hx',hy',asAddr,h2]) rfl hQ
end
end Go.Proofs.YtmcndlofaanjiaaGreat
