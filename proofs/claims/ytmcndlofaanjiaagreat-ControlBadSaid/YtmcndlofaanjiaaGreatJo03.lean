/- Texts of one claim, laid together: Reg Row Tail Mid W Part -/
import Derived.StillTailTactics
import Derived.Deep.MidRow
import Derived.Test.YtmcndlofaanjiaaGreatJo02
/- A region whose order is open,by facts that stay: what each operation leaves is said once,whatever came before it but what it waits for. -/
namespace Go.Proofs.YtmcndlofaanjiaaGreat
open Go.RowKit
set_option linter.unusedVariables false
set_option maxRecDepth 100000
set_option maxHeartbeats 8000000
structure Le (w w':World):Prop where
 out:Below w.heap.size w w'
theorem Le.refl (w:World):Le w w:=⟨Below.refl _ _⟩
theorem Le.r {w:World}:Le w w:=Le.refl w
theorem Le.trans {a b c:World} (h:Le a b) (h':Le b c):Le a c:=⟨h.out.trans (h'.out.mono h.out.size)⟩
theorem Le.drew {a b:World} (h:Le a b):Le a b.drew:=⟨h.out.drew⟩
theorem Le.alloc {a b:World} (h:Le a b) (o:Obj):Le a (b.alloc o):=⟨h.out.alloc h.out.size o⟩
theorem Ah {w:World} {k:Nat} {o:Obj} (h:w.heap[k]?=some o):k<w.heap.size:=(Array.getElem?_eq_some_iff.1 h).1
theorem Le.heap {w w':World} (h:Le w w') {k:Nat} {o:Obj} (hk:w.heap[k]?=some o):w'.heap[k]?=some o:=CJ h.out hk (Ah hk)
theorem Le.cell {w w':World} (h:Le w w') {a:Addr} {v:Value} (hk:w.cell? a=some v):w'.cell? a=some v:=cell_later h.out hk
theorem Le.rsl {α:Type} {size:Nat} {R:Rd α} (hR:Ie R) {w w':World} {l:List α} {v:Value} (h:Le w w') (hr:RSl size R w l v):RSl size R w' l v:=hr.keep hR h.out
theorem Le.size {w w':World} (h:Le w w'):w.heap.size≤w'.heap.size:=h.out.size
theorem Le.drewN {a b:World} (h:Le a b) (n:Nat):Le a (b.drewN n):=⟨below_drewN h.out n⟩
def Am:List Oper→List Value→Act→Act
 | o::os,v::vs,a=>Am os vs (a.put o.dst v)
 | _,_,a=>a
def AR:List Oper→(List Value→Prop)→Prop
 | [],p=>p []
 | _::os,p=>∀ v,AR os fun vs=>p (v::vs)
abbrev DZ:=Value→World→Prop
def Is (c:Value):DZ:=fun v _=>v=c
theorem Is.mk (c:Value) (w:World):Is c c w:=rfl
theorem Is.m {c:Value} {w:World}:Is c c w:=Is.mk c w
def AC (Φ:List DZ) (vs:List Value) (w:World) (j:Nat):Prop :=
 match Φ[j]?,vs[j]? with
 | some φ,some v=>φ v w
 | _,_=>True
def E5 (R:World→World→Prop):List DZ→Prop
 | []=>True
 | φ::φs=>(∀ v w w',R w w'→φ v w→φ v w')∧E5 R φs
theorem E5.use {R:World→World→Prop}:∀ {Φ:List DZ},E5 R Φ→∀ φ∈Φ,∀ v w w',R w w'→φ v w→φ v w'
 | φ::φs,h,ψ,hm=>by
  rcases List.mem_cons.1 hm with rfl | hm
  ·exact h.1
  ·exact E5.use h.2 ψ hm
theorem St.is {R:World→World→Prop} {c:Value}:∀ v w w',R w w'→Is c v w→Is c v w':=fun _ _ _ _ h=>h
def AK (Φ:List DZ) (vs:List Value) (w:World):List Nat→Prop→Prop
 | [],p=>p
 | j::js,p=>AC Φ vs w j→AK Φ vs w js p
section
variable (P:Program) (ops:Array Oper) (Q:Exit→Act→World→Prop) (R:World→World→Prop) (w0:World) (Φ:List DZ) (a:Act) (vs:List Value)
def Obl:List Oper→List DZ→List (List Nat)→Prop
 | o::os,φ::φs,d::ds=>(∀ w,R w0 w→AK Φ vs w d (∀ K:Act→World→Prop,(∀ v w',R w w'→φ v w'→K (a.put o.dst v) w') →
   if Region.wanted o (yielded ops a.tmps)=true then o.wp P a w K Q else K (a.put o.dst undef) w))∧Obl os φs ds
 | _,_,_=>True
def An (w:World):List DZ→List Value→Prop→Prop
 | φ::φs,v::vs,p=>φ v w→An w φs vs p
 | _,_,p=>p
end
def CZ (ops:Array Oper) (ds:List (List Nat)):Bool :=
 ds.length==ops.size &&
 ((ops.toList.filterMap (·.dst)).Nodup:Bool) &&
 ((List.range ops.size).all fun i=>match ops[i]? with | some o=>o.after.all fun e=>!Region.binds .any e||decide (e.on<i) | none=>true) &&
 ((List.range ops.size).all fun i=>match ops[i]?,ds[i]? with | some o,some d=>d.all fun j=>o.after.any fun e=>Region.binds .any e&&e.on==j | _,_=>true)
theorem AR.use:∀ {os:List Oper} {p:List Value→Prop},AR os p→∀ vs:List Value,vs.length=os.length→p vs
 | [],_,h,[],_=>h
 | _::os,_,h,v::vs,hl=>AR.use (h v) vs (by simpa using hl)
 | [],_,_,_::_,hl=>by simp at hl
 | _::_,_,_,[],hl=>by simp at hl
theorem AK.use {Φ:List DZ} {vs:List Value} {w:World} {p:Prop}:∀ {js:List Nat},AK Φ vs w js p→(∀ j∈js,AC Φ vs w j)→p
 | [],h,_=>h
 | j::js,h,hf=>AK.use (h (hf j (by simp))) fun k hk=>hf k (by simp[hk])
theorem Obl.use {P ops Q R w0 Φ a vs}:∀ {os:List Oper} {φs:List DZ} {ds:List (List Nat)},Obl P ops Q R w0 Φ a vs os φs ds→∀ (i:Nat) (o:Oper) (φ:DZ) (d:List Nat),os[i]?=some o→φs[i]?=some φ→ds[i]?=some d →
  ∀ w,R w0 w→AK Φ vs w d (∀ K:Act→World→Prop,(∀ v w',R w w'→φ v w'→K (a.put o.dst v) w') →
   if Region.wanted o (yielded ops a.tmps)=true then o.wp P a w K Q else K (a.put o.dst undef) w)
 | o::os,φ::φs,d::ds,h,0,o',φ',d',ho,hφ,hd=>by
  simp only[List.getElem?_cons_zero,Option.some.injEq] at ho hφ hd
  subst ho hφ hd
  exact h.1
 | o::os,φ::φs,d::ds,h,i+1,o',φ',d',ho,hφ,hd=>Obl.use h.2 i o' φ' d' (by simpa using ho) (by simpa using hφ) (by simpa using hd)
 | [],_,_,_,_,_,_,_,ho,_,_=>by simp at ho
 | _::_,[],_,_,_,_,_,_,_,hφ,_=>by simp at hφ
 | _::_,_::_,[],_,_,_,_,_,_,_,hd=>by simp at hd
theorem An.use {w:World} {p:Prop}:∀ {φs:List DZ} {vs:List Value},An w φs vs p→(∀ (i:Nat) (φ:DZ) (v:Value),φs[i]?=some φ→vs[i]?=some v→φ v w)→p
 | φ::φs,v::vs,h,hf=>An.use (h (hf 0 φ v rfl rfl)) fun i φ' v' h1 h2=>hf (i+1) φ' v' (by simpa using h1) (by simpa using h2)
 | [],_,h,_=>h
 | _::_,[],h,_=>h
theorem put_self (a:Act) (d:Option Tmp):∃ v,a.put d v=a:=by
 cases d with
 | none=>exact⟨undef,rfl⟩
 | some d =>
  refine⟨a.tmps.getD d undef,?_⟩
  simp only[Act.put]
  congr 1
  by_cases h:d<a.tmps.size
  ·simp[h,Array.setIfInBounds]
  ·simp[h,Array.setIfInBounds]
theorem BZ:∀ (os:List Oper) (a:Act),∃ vs:List Value,vs.length=os.length∧Am os vs a=a
 | [],a=>⟨[],rfl,rfl⟩
 | o::os,a=>by
  obtain⟨v,hv⟩:=put_self a o.dst
  obtain⟨vs,hl,h⟩:=BZ os a
  exact⟨v::vs,by simp[hl],by simp only[Am,hv,h]⟩
theorem ET:∀ (os:List Oper) (vs:List Value) (a:Act) (d:Option Tmp) (v:Value),(∀ t,d=some t→∀ o∈os,o.dst≠some t)→(Am os vs a).put d v=Am os vs (a.put d v)
 | [],_,_,_,_,_=>rfl
 | o::os,[],_,_,_,_=>rfl
 | o::os,u::vs,a,d,v,h=>by
  simp only[Am]
  rw[ET os vs _ d v (fun t ht o' ho'=>h t ht o' (by simp[ho']))]
  congr 1
  exact Act.put_comm a u v (fun t ht e=>h t e o (by simp) ht)
theorem put_put (a:Act) (d:Option Tmp) (u v:Value):(a.put d u).put d v=a.put d v:=by
 cases d with
 | none=>rfl
 | some d=>simp[Act.put]
theorem BI:∀ (os:List Oper) (vs:List Value) (a:Act) (i:Nat) (o:Oper) (v:Value),(os.filterMap (·.dst)).Nodup→vs.length=os.length→os[i]?=some o→(Am os vs a).put o.dst v=Am os (vs.set i v) a
 | [],_,_,_,_,_,_,_,h=>by simp at h
 | _::_,[],_,_,_,_,_,h,_=>by simp at h
 | o::os,u::vs,a,0,o',v,hn,hl,h=>by
  simp only[List.getElem?_cons_zero,Option.some.injEq] at h
  subst h
  simp only[Am,List.set_cons_zero]
  rw[ET _ _ _ _ _ (fun t ht o' ho' e=>?_),put_put]
  rw[List.filterMap_cons,ht] at hn
  simp only[List.nodup_cons,List.mem_filterMap] at hn
  exact hn.1 ⟨o',ho',e⟩
 | o::os,u::vs,a,i+1,o',v,hn,hl,h=>by
  simp only[Am,List.set_cons_succ]
  refine BI os vs _ i o' v ?_ (by simpa using hl) (by simpa using h)
  rw[List.filterMap_cons] at hn
  cases hd:o.dst with
  | none=>rw[hd] at hn;exact hn
  | some t=>rw[hd] at hn;exact (List.nodup_cons.1 hn).2
def D1 (listed:Array Bool):Nat:=listed.toList.countP (fun b=>!b)
theorem BW:∀ (l:List Bool) (i:Nat),l[i]?=some false→(l.set i true).countP (fun b=>!b)+1=l.countP (fun b=>!b)
 | [],_,h=>by simp at h
 | b::l,0,h=>by
  simp only[List.getElem?_cons_zero,Option.some.injEq] at h
  subst h
  simp
 | b::l,i+1,h=>by
  have:=BW l i (by simpa using h)
  simp only[List.set_cons_succ,List.countP_cons]
  omega
section
variable {P:Program} {ops:Array Oper} {Q:Exit→Act→World→Prop} {R:World→World→Prop} {Φ:List DZ} {ds:List (List Nat)} {a0:Act} {w0:World}
theorem GH (hok:CZ ops ds=true) (hΦ:Φ.length=ops.size) (htr:∀ a b c,R a b→R b c→R a c) (hst:E5 R Φ)
  (h:AR ops.toList fun vs=>Obl P ops Q R w0 Φ (Am ops.toList vs a0) vs ops.toList Φ ds∧∀ w,R w0 w→An w Φ vs (Q .normal (Am ops.toList vs a0) w)) :
  ∀ (fuel:Nat) (listed:Array Bool) (a:Act) (w:World),listed.size=ops.size→D1 listed≤fuel→R w0 w →
   (∃ vs:List Value,vs.length=ops.size∧a=Am ops.toList vs a0∧∀ i,listed.getD i false=true→AC Φ vs w i)→wpAny P .any ops Q fuel listed a w:=by
 simp only[CZ,Bool.and_eq_true,beq_iff_eq,decide_eq_true_eq] at hok
 obtain⟨⟨⟨hdl,hnd⟩,hfw⟩,hdp⟩:=hok
 have hnone:∀ (listed:Array Bool),listed.size=ops.size→Region.ready .any ops listed=[]→∀ i,i<ops.size→listed.getD i false=true:=by
  intro listed hs hr i
  induction i using Nat.strongRecOn with
  | _ i ih =>
   intro hi
   cases hb:listed.getD i false with
   | true=>rfl
   | false =>
    exfalso
    have hm:i∈Region.ready .any ops listed:=by
     refine mem_ready.2 ⟨?_,ops[i],by simp[hi],fun e he hbd=>?_⟩
     ·have hlt:i<listed.size:=by omega
      simp[hlt] at hb ⊢
      exact hb
     ·have h1:=List.all_eq_true.1 hfw i (by simpa using hi)
      simp only[Array.getElem?_eq_getElem hi] at h1
      have h2:=Array.all_eq_true_iff_forall_mem.1 h1 e he
      simp only[hbd,Bool.not_true,Bool.false_or,decide_eq_true_eq] at h2
      exact ih e.on h2 (by omega)
    rw[hr] at hm
    cases hm
 have hfin:∀ (listed:Array Bool) (a:Act) (w:World),listed.size=ops.size→Region.ready .any ops listed=[]→R w0 w →
   (∃ vs:List Value,vs.length=ops.size∧a=Am ops.toList vs a0∧∀ i,listed.getD i false=true→AC Φ vs w i)→Q .normal a w:=by
  rintro listed a w hs hr hw ⟨vs,hl,rfl,hf⟩
  refine ((h.use vs (by simpa using hl)).2 w hw).use fun i φ v h1 h2=>?_
  have:=hf i (hnone listed hs hr i (by have:=(List.getElem?_eq_some_iff.1 h1).1;omega))
  rw[AC,h1,h2] at this
  exact this
 intro fuel
 induction fuel with
 | zero =>
  intro listed a w hs hu hw hv
  have hr:Region.ready .any ops listed=[]:=by
   cases hr:Region.ready .any ops listed with
   | nil=>rfl
   | cons i rs =>
    exfalso
    have hm:i∈Region.ready .any ops listed:=by rw[hr];simp
    have h0:=(mem_ready.1 hm).1
    have hlt:i<listed.size:=by
     rcases Nat.lt_or_ge i listed.size with h' | h'
     ·exact h'
     ·simp[Array.getElem?_eq_none h'] at h0
    have h1:listed.toList[i]?=some false:=by simp[hlt] at h0 ⊢;exact h0
    have:=BW _ _ h1
    unfold D1 at hu
    omega
  exact⟨hr,hfin listed a w hs hr hw hv⟩
 | succ fuel ih =>
  intro listed a w hs hu hw hv
  refine⟨fun hr=>hfin listed a w hs hr hw hv,fun i hi=>?_⟩
  obtain⟨h0,o,ho,hall⟩:=mem_ready.1 hi
  have hin:i<ops.size:=(Array.getElem?_eq_some_iff.1 ho).1
  have hlt:i<listed.size:=by omega
  have h1:listed.toList[i]?=some false:=by simp[hlt] at h0 ⊢;exact h0
  obtain⟨vs,hl,rfl,hf⟩:=hv
  obtain⟨φ,hφ⟩:∃ φ,Φ[i]?=some φ:=⟨Φ[i]'(by omega),by simp⟩
  obtain⟨d,hd⟩:∃ d,ds[i]?=some d:=⟨ds[i]'(by omega),by simp⟩
  have hO:=((h.use vs (by simpa using hl)).1.use i o φ d (by simpa using ho) hφ hd w hw).use (fun j hj=>by
   have h2:=List.all_eq_true.1 hdp i (by simpa using hin)
   simp only[ho,hd] at h2
   have h3:=List.all_eq_true.1 h2 j hj
   obtain⟨e,he,hb⟩:=Array.any_eq_true'.1 h3
   simp only[Bool.and_eq_true,beq_iff_eq] at hb
   rw[← hb.2]
   exact hf _ (hall e he hb.1))
  refine wpOp_step ho fun K hK=>hO K fun v w' hR hv=>hK _ _ ?_
  refine ih _ _ _ (by simpa using hs) ?_ (htr _ _ _ hw hR) ⟨vs.set i v,by simpa using hl,BI _ _ _ _ _ _ hnd (by simpa using hl) (by simpa using ho),fun k hk=>?_⟩
  ·unfold D1 at hu ⊢
   have:=BW _ _ h1
   have e:(listed.setIfInBounds i true).toList=listed.toList.set i true:=by simp
   rw[e]
   omega
  ·by_cases hki:k=i
   ·subst hki
    have hsv:(vs.set k v)[k]?=some v:=List.getElem?_set_self (by omega)
    rw[AC,hφ,hsv]
    exact hv
   ·have h4:=hf k (by rwa [getD_set_ne false (fun e=>hki e.symm)] at hk)
    have hsv:(vs.set i v)[k]?=vs[k]?:=by simp[Ne.symm hki]
    unfold AC at h4 ⊢
    rw[hsv]
    cases hk1:Φ[k]? with
    | none=>trivial
    | some φ' =>
     cases hk2:vs[k]? with
     | none=>trivial
     | some u =>
      simp only[hk1,hk2] at h4 ⊢
      exact hst.use φ' (List.mem_of_getElem? hk1) u w w' hR h4
theorem D7 {id:Nat} {l:List Oper} (R:World→World→Prop) (Φ:List DZ) (ds:List (List Nat)) (hm:P.follows .mixedOrders=true) (hok:CZ l.toArray ds=true) (hΦ:(Φ.length==l.length)=true)
  (hrf:∀ a,R a a) (htr:∀ a b c,R a b→R b c→R a c) (hst:E5 R Φ)
  (h:AR l fun vs=>Obl P l.toArray Q R w0.drew Φ (Am l vs a0) vs l Φ ds∧∀ w,R w0.drew w→An w Φ vs (Q .normal (Am l vs a0) w)):(Code.region id l.toArray true).wp P Q a0 w0:=by
 refine wp_region_any hm ?_
 have hsz:l.toArray.size=l.length:=by simp
 obtain⟨vs,hl,he⟩:=BZ l a0
 refine GH (a0:=a0) (w0:=w0.drew) hok (by simpa using hΦ) htr hst (by simpa using h) _ _ _ _ (by simp) (by unfold D1;exact Nat.le_trans List.countP_le_length (by simp)) (hrf _) ⟨vs,by simpa using hl,he.symm,fun i hi=>?_⟩
 exfalso
 by_cases h':i<l.length
 ·simp[h'] at hi
 ·simp[h'] at hi
end
def Au (k:Nat) (vs:List Value) (a:Act):Act:=⟨(a.tmps.toList.take k++(vs++a.tmps.toList.drop (k+vs.length))).toArray,a.defers⟩
def AD (l:List Oper) (n k:Nat) (a:Act) (vs:List Value):Act:=Am (l.drop n) (vs.drop n) (Au k (vs.take n) a)
def Ih (l:List Oper) (n k size:Nat):Bool:=((List.range n).all fun i=>(l[i]?).bind (·.dst)==some (k+i))&&decide (k+n≤size)&&decide (n≤l.length)
theorem Ik (k:Nat) (a:Act):Au k [] a=a:=by simp[Au]
theorem Gy (k:Nat) (v:Value) (vs:List Value) (a:Act) (h:k<a.tmps.size):Au (k+1) vs (a.put (some k) v)=Au k (v::vs) a:=by
 obtain⟨⟨t⟩,ds⟩:=a
 simp only[Au,Act.put,List.setIfInBounds_toArray]
 simp only[List.size_toArray] at h
 congr 2
 apply List.ext_getElem?
 intro i
 have e1:((t.set k v).take (k+1))=t.take k++[v]:=by
  rw[List.take_succ_eq_append_getElem (by simpa using h),List.take_set_of_le (Nat.le_refl k)]
  simp
 have e2:(t.set k v).drop (k+1+vs.length)=t.drop (k+(v::vs).length):=by
  rw[List.drop_set_of_lt (by omega),List.length_cons]
  congr 1
  omega
 rw[e1,e2]
 simp
theorem EX:∀ (os:List Oper) (vs:List Value) (a:Act) (k:Nat),(∀ i,i<os.length→(os[i]?).bind (·.dst)=some (k+i))→vs.length=os.length→k+os.length≤a.tmps.size→Am os vs a=Au k vs a
 | [],[],a,k,_,_,_=>by rw[Ik];rfl
 | o::os,v::vs,a,k,h,hl,hs=>by
  have h0:o.dst=some k:=by simpa using h 0 (by simp)
  simp only[List.length_cons] at hs
  rw[Am,h0,EX os vs _ (k+1) (fun i hi=>by
   have:=h (i+1) (by simpa using hi)
   rw[show k+1+i=k+(i+1) by omega]
   simpa using this) (by simpa using hl) (by simp[Act.put];omega),Gy k v vs a (by omega)]
 | [],_::_,_,_,_,hl,_=>by simp at hl
 | _::_,[],_,_,_,hl,_=>by simp at hl
theorem Db:∀ (a b:List Oper) (vs us:List Value) (c:Act),vs.length=a.length→Am (a++b) (vs++us) c=Am b us (Am a vs c)
 | [],_,[],_,_,_=>rfl
 | o::a,b,v::vs,us,c,h=>by
  simp only[List.cons_append,Am]
  exact Db a b vs us _ (by simpa using h)
 | [],_,_::_,_,_,h=>by simp at h
 | _::_,_,[],_,_,h=>by simp at h
theorem Ch {l:List Oper} {n k:Nat} {a:Act} (h:Ih l n k a.tmps.size=true) {vs:List Value} (hl:vs.length=l.length):AD l n k a vs=Am l vs a:=by
 simp only[Ih,Bool.and_eq_true,decide_eq_true_eq,List.all_eq_true,List.mem_range,beq_iff_eq] at h
 obtain⟨⟨h1,h2⟩,h3⟩:=h
 have e1:l.take n++l.drop n=l:=List.take_append_drop n l
 have e2:vs.take n++vs.drop n=vs:=List.take_append_drop n vs
 have e3:=Db (l.take n) (l.drop n) (vs.take n) (vs.drop n) a (by simp;omega)
 rw[e1,e2] at e3
 rw[AD,e3,EX (l.take n) (vs.take n) a k (fun i hi=>?_) (by simp;omega) (by simp;omega)]
 simp only[List.length_take] at hi
 rw[List.getElem?_take_of_lt (by omega)]
 exact h1 i (by omega)
section
variable (P:Program) (ops:Array Oper) (Q:Exit→Act→World→Prop) (R:World→World→Prop) (w0:World) (Φ:List DZ) (A:List Value→Act) (vs:List Value)
def Bv:Nat→List Oper→List DZ→List (List Nat)→Prop
 | i,o::os,φ::φs,d::ds=>(∀ w,R w0 w→AK Φ vs w d (∀ K:Act→World→Prop,(∀ v w',R w w'→φ v w'→K (A (vs.set i v)) w') →
   if Region.wanted o (yielded ops (A vs).tmps)=true then o.wp P (A vs) w K Q else K (A (vs.set i undef)) w))∧Bv (i+1) os φs ds
 | _,_,_,_=>True
end
theorem AK.mono {Φ:List DZ} {vs:List Value} {w:World} {p q:Prop} (h:p→q):∀ {js:List Nat},AK Φ vs w js p→AK Φ vs w js q
 | [],hh=>h hh
 | _::_,hh=>fun hf=>AK.mono h (hh hf)
theorem obl_of {P:Program} {l:List Oper} {Q:Exit→Act→World→Prop} {R:World→World→Prop} {w0:World} {Φ:List DZ} {A:List Value→Act} {a0:Act} (hA:∀ vs:List Value,vs.length=l.length→A vs=Am l vs a0) (hn:(l.filterMap (·.dst)).Nodup) {vs:List Value} (hl:vs.length=l.length) :
  ∀ (os:List Oper) (i:Nat) (φs:List DZ) (ds:List (List Nat)),(∀ j,os[j]?=l[i+j]?)→Bv P l.toArray Q R w0 Φ A vs i os φs ds→Obl P l.toArray Q R w0 Φ (Am l vs a0) vs os φs ds
 | o::os,i,φ::φs,d::ds,hi,h=>by
  refine⟨fun w hw=>AK.mono (fun hh K hK=>?_) (h.1 w hw),obl_of hA hn hl os (i+1) φs ds (fun j=>?_) h.2⟩
  ·have ho:l[i]?=some o:=by simpa using (hi 0).symm
   have e:∀ v,(Am l vs a0).put o.dst v=A (vs.set i v):=fun v=>by
    rw[BI l vs a0 i o v hn hl ho,hA _ (by simpa using hl)]
   have:=hh K (fun v w' h1 h2=>by rw[← e];exact hK v w' h1 h2)
   rw[hA vs hl,← e] at this
   exact this
  ·have:=hi (j+1)
   rw[show i+1+j=i+(j+1) by omega,← this]
   simp
 | [],_,_,_,_,_=>by simp[Obl]
 | _::_,_,[],_,_,_=>by simp[Obl]
 | _::_,_,_::_,[],_,_=>by simp[Obl]
theorem Bi {P:Program} {Q:Exit→Act→World→Prop} {a0:Act} {w0:World} {id:Nat} {l:List Oper} (n k:Nat) (R:World→World→Prop) (Φ:List DZ) (ds:List (List Nat)) (hm:P.follows .mixedOrders=true) (hok:CZ l.toArray ds=true) (hΦ:(Φ.length==l.length)=true)
  (hrow:Ih l n k a0.tmps.size=true) (hrf:∀ a,R a a) (htr:∀ a b c,R a b→R b c→R a c) (hst:E5 R Φ)
  (h:AR l fun vs=>Bv P l.toArray Q R w0.drew Φ (AD l n k a0) vs 0 l Φ ds∧∀ w,R w0.drew w→An w Φ vs (Q .normal (AD l n k a0 vs) w)):(Code.region id l.toArray true).wp P Q a0 w0:=by
 have hn:(l.filterMap (·.dst)).Nodup:=by
  simp only[CZ,Bool.and_eq_true,beq_iff_eq,decide_eq_true_eq] at hok
  exact hok.1.1.2
 refine D7 R Φ ds hm hok hΦ hrf htr hst ?_
 have hall:∀ {os:List Oper} {p q:List Value→Prop},(∀ vs:List Value,vs.length=os.length→p vs→q vs)→AR os p→AR os q:=by
  intro os
  induction os with
  | nil=>intro p q h1 h2;exact h1 [] rfl h2
  | cons o os ih=>intro p q h1 h2 v;exact ih (fun vs hl hp=>h1 (v::vs) (by simp[hl]) hp) (h2 v)
 refine hall (fun vs hl hp=>⟨obl_of (A:=AD l n k a0) (fun vs hl=>Ch hrow hl) hn hl l 0 Φ ds (fun j=>by simp) hp.1,fun w hw=>?_⟩) h
 have:=hp.2 w hw
 rwa [Ch hrow hl] at this
def Cq (ops:Array Oper) (m:Nat):Bool :=
 decide (m<ops.size)&&Region.sinkB .any ops m&&Region.chainB .any ops m&&Region.seqB .any ops (ops.size - m) m (List.replicate m true++List.replicate (ops.size - m) false).toArray
def unl (m:Nat) (listed:Array Bool):Nat:=(listed.toList.take m).countP (fun b=>!b)
section
variable {P:Program} {Q:Exit→Act→World→Prop} {R:World→World→Prop} {Φ:List DZ} {ds:List (List Nat)} {a0:Act} {w0:World} {l:List Oper} {m:Nat}
theorem DR (hok:CZ (l.take m).toArray ds=true) (hΦ:Φ.length=(l.take m).length) (htl:Cq l.toArray m=true) (htr:∀ a b c,R a b→R b c→R a c) (hst:E5 R Φ)
  (h:AR (l.take m) fun vs=>Obl P l.toArray Q R w0 Φ (Am (l.take m) vs a0) vs (l.take m) Φ ds∧∀ w,R w0 w→An w Φ vs (wpList P l.toArray Q (l.drop m) (Am (l.take m) vs a0) w)) :
  ∀ (f:Nat) (listed:Array Bool) (a:Act) (w:World),HeadInv .any l.toArray m listed→unl m listed=f→R w0 w →
   (∃ vs:List Value,vs.length=(l.take m).length∧a=Am (l.take m) vs a0∧∀ i,i<m→listed.getD i false=true→AC Φ vs w i)→wpAny P .any l.toArray Q (f+(l.toArray.size - m)) listed a w:=by
 simp only[Cq,Bool.and_eq_true,decide_eq_true_eq] at htl
 obtain⟨⟨⟨hm,hsink⟩,hchain⟩,hseq⟩:=htl
 have hml:m<l.length:=by simpa using hm
 have htk:(l.take m).length=m:=by simp;omega
 have hget:∀ i,i<m→(l.take m).toArray[i]?=l.toArray[i]?:=fun i hi=>by simp[hi]
 simp only[CZ,Bool.and_eq_true,beq_iff_eq,decide_eq_true_eq] at hok
 obtain⟨⟨⟨hdl,hnd⟩,hfw⟩,hdp⟩:=hok
 have hsz:(l.take m).toArray.size=m:=by simp;omega
 rw[hsz] at hfw hdp hdl
 have hnd:((l.take m).filterMap (·.dst)).Nodup:=by simpa using hnd
 have hready:∀ (listed:Array Bool),HeadInv .any l.toArray m listed→(∃ i,i<m∧listed.getD i true=false)→Region.ready .any l.toArray listed≠[]:=by
  rintro listed inv ⟨i,hi,hb⟩
  induction i using Nat.strongRecOn with
  | _ i ih =>
   by_cases hex:∃ j,j<i∧listed.getD j true=false
   ·obtain⟨j,hj,hb'⟩:=hex
    exact ih j hj (by omega) hb'
   ·have hin:i<l.toArray.size:=by omega
    have hmem:i∈Region.ready .any l.toArray listed:=by
     refine mem_ready.2 ⟨hb,l.toArray[i],by simp at hin;simp[hin],fun e he hbd=>?_⟩
     have h1:=List.all_eq_true.1 hfw i (by simpa using hi)
     rw[hget i hi,Array.getElem?_eq_getElem hin] at h1
     have h2:=Array.all_eq_true_iff_forall_mem.1 h1 e he
     simp only[hbd,Bool.not_true,Bool.false_or,decide_eq_true_eq] at h2
     cases hl:listed.getD e.on false with
     | true=>rfl
     | false =>
      exact absurd ⟨e.on,h2,getD_in (by rw[inv.size];omega) hl⟩ hex
    intro h0
    rw[h0] at hmem
    cases hmem
 intro f
 induction f with
 | zero =>
  intro listed a w inv hu hw ⟨vs,hl,ha,hf⟩
  subst ha
  have hall:∀ i,i<m→listed.getD i false=true:=fun i hi=>by
   have hlt:i<listed.toList.length:=by simp[inv.size];simp at hm;omega
   have h0:=List.countP_eq_zero.1 hu (listed.toList[i]) (List.mem_of_getElem? (i:=i) (by rw[List.getElem?_take_of_lt hi,List.getElem?_eq_getElem hlt]))
   simp at hlt
   simp[hlt] at h0 ⊢
   exact h0
  have hle:listed=(List.replicate m true++List.replicate (l.toArray.size - m) false).toArray:=by
   apply Array.ext
   ·rw[inv.size];simp;omega
   ·intro i h1 h2
    by_cases hi:i<m
    ·have:=hall i hi
     simp[h1] at this
     rw[this]
     simp[hi]
    ·have:=inv.tail i (by omega) (by rw[← inv.size];exact h1)
     simp[h1] at this
     rw[this,List.getElem_toArray,List.getElem_append_right (by simp;omega)]
     simp
  have hq:=((h.use vs (by simpa using hl)).2 w hw).use (fun i φ v h1 h2=>by
   have hi:i<m:=by have:=(List.getElem?_eq_some_iff.1 h1).1;omega
   have:=hf i hi (hall i hi)
   rw[AC,h1,h2] at this
   exact this)
  have:=wpAny_of_seq (md:=.any) (Q':=Q) (ops:=l.toArray) (l.drop m) m listed _ w (fun j=>by simp[List.getElem?_drop]) (by rw[hle];simpa using hseq) hq
  simpa using this
 | succ f ih =>
  intro listed a w inv hu hw ⟨vs,hl,ha,hf⟩
  subst ha
  have hex:∃ i,i<m∧listed.getD i true=false:=by
   have hp:0<(listed.toList.take m).countP (fun b=>!b):=by unfold unl at hu;omega
   obtain⟨b,hb,hbf⟩:=List.countP_pos_iff.1 hp
   obtain⟨i,hi,rfl⟩:=List.getElem_of_mem hb
   simp only[List.length_take] at hi
   refine⟨i,by omega,?_⟩
   have hi2:i<listed.size:=by simp at hi;omega
   simp at hbf
   simp[hi2,hbf]
  rw[show f+1+(l.toArray.size - m)=(f+(l.toArray.size - m))+1 by omega]
  refine⟨fun hr=>absurd hr (hready listed inv hex),fun i hi=>?_⟩
  have him:i<m:=by
   obtain⟨i0,hi0,hb0⟩:=hex
   rcases Nat.lt_or_ge i m with h' | h'
   ·exact h'
   ·exact absurd hi (tail_waits hsink hchain hm inv _ i0 rfl hi0 hb0 i h')
  obtain⟨h0,o,ho,hall⟩:=mem_ready.1 hi
  have hlt:i<listed.size:=by rw[inv.size];omega
  have ho':(l.take m)[i]?=some o:=by
   have:=hget i him
   rw[ho] at this
   simpa using this
  obtain⟨φ,hφ⟩:∃ φ,Φ[i]?=some φ:=⟨Φ[i]'(by omega),by simp⟩
  obtain⟨d,hd⟩:∃ d,ds[i]?=some d:=⟨ds[i]'(by omega),by simp⟩
  have hO:=((h.use vs (by simpa using hl)).1.use i o φ d ho' hφ hd w hw).use (fun j hj=>by
   have h2:=List.all_eq_true.1 hdp i (by simpa using him)
   rw[hget i him,ho,hd] at h2
   simp only at h2
   have h3:=List.all_eq_true.1 h2 j hj
   obtain⟨e,he,hb⟩:=Array.any_eq_true'.1 h3
   simp only[Bool.and_eq_true,beq_iff_eq] at hb
   have h4:=List.all_eq_true.1 hfw i (by simpa using him)
   rw[hget i him,ho] at h4
   have h5:=Array.all_eq_true_iff_forall_mem.1 h4 e he
   simp only[hb.1,Bool.not_true,Bool.false_or,decide_eq_true_eq] at h5
   rw[← hb.2]
   exact hf _ (by omega) (hall e he hb.1))
  refine wpOp_step ho fun K hK=>hO K fun v w' hR hv=>hK _ _ ?_
  refine ih _ _ _ (inv.set hi him) ?_ (htr _ _ _ hw hR) ⟨vs.set i v,by simpa using hl,BI _ _ _ _ _ _ hnd (by simpa using hl) ho',fun k hkm hk=>?_⟩
  ·have h1:(listed.toList.take m)[i]?=some false:=by
    rw[List.getElem?_take_of_lt him]
    simp[hlt] at h0 ⊢
    exact h0
   have:=BW _ _ h1
   unfold unl at hu ⊢
   have e:(listed.setIfInBounds i true).toList.take m=(listed.toList.take m).set i true:=by
    rw[← List.take_set]
    simp
   rw[e]
   omega
  ·by_cases hki:k=i
   ·subst hki
    have hsv:(vs.set k v)[k]?=some v:=List.getElem?_set_self (by omega)
    rw[AC,hφ,hsv]
    exact hv
   ·have h4:=hf k hkm (by rwa [getD_set_ne false (fun e=>hki e.symm)] at hk)
    have hsv:(vs.set i v)[k]?=vs[k]?:=by simp[Ne.symm hki]
    unfold AC at h4 ⊢
    rw[hsv]
    cases hk1:Φ[k]? with
    | none=>trivial
    | some φ' =>
     cases hk2:vs[k]? with
     | none=>trivial
     | some u =>
      simp only[hk1,hk2] at h4 ⊢
      exact hst.use φ' (List.mem_of_getElem? hk1) u w w' hR h4
theorem Aj {id:Nat} (m n k:Nat) (R:World→World→Prop) (Φ:List DZ) (ds:List (List Nat)) (hm:P.follows .mixedOrders=true) (hok:CZ (l.take m).toArray ds=true) (hΦ:(Φ.length==(l.take m).length)=true) (htl:Cq l.toArray m=true)
  (hrow:Ih (l.take m) n k a0.tmps.size=true) (hrf:∀ a,R a a) (htr:∀ a b c,R a b→R b c→R a c) (hst:E5 R Φ)
  (h:AR (l.take m) fun vs=>Bv P l.toArray Q R w0.drew Φ (AD (l.take m) n k a0) vs 0 (l.take m) Φ ds∧∀ w,R w0.drew w→An w Φ vs (wpList P l.toArray Q (l.drop m) (AD (l.take m) n k a0 vs) w)):(Code.region id l.toArray true).wp P Q a0 w0:=by
 have hn:((l.take m).filterMap (·.dst)).Nodup:=by
  simp only[CZ,Bool.and_eq_true,beq_iff_eq,decide_eq_true_eq] at hok
  exact hok.1.1.2
 have hall:∀ {os:List Oper} {p q:List Value→Prop},(∀ vs:List Value,vs.length=os.length→p vs→q vs)→AR os p→AR os q:=by
  intro os
  induction os with
  | nil=>intro p q h1 h2;exact h1 [] rfl h2
  | cons o os ih=>intro p q h1 h2 v;exact ih (fun vs hl hp=>h1 (v::vs) (by simp[hl]) hp) (h2 v)
 have hobl:∀ (vs:List Value),vs.length=(l.take m).length→∀ (os:List Oper) (i:Nat) (φs:List DZ) (ds:List (List Nat)),(∀ j,os[j]?=(l.take m)[i+j]?) →
   Bv P l.toArray Q R w0.drew Φ (AD (l.take m) n k a0) vs i os φs ds→Obl P l.toArray Q R w0.drew Φ (Am (l.take m) vs a0) vs os φs ds:=by
  intro vs hl os
  induction os with
  | nil=>intro i φs ds _ _;simp[Obl]
  | cons o os ih =>
   intro i φs ds hi hh
   match φs,ds with
   | [],_=>simp[Obl]
   | _::_,[]=>simp[Obl]
   | φ::φs,d::ds =>
    refine⟨fun w hw=>AK.mono (fun hh K hK=>?_) (hh.1 w hw),ih (i+1) φs ds (fun j=>?_) hh.2⟩
    ·have ho:(l.take m)[i]?=some o:=by simpa using (hi 0).symm
     have e:∀ v,(Am (l.take m) vs a0).put o.dst v=AD (l.take m) n k a0 (vs.set i v):=fun v=>by
      rw[BI (l.take m) vs a0 i o v hn hl ho,Ch hrow (by simpa using hl)]
     have:=hh K (fun v w' h1 h2=>by rw[← e];exact hK v w' h1 h2)
     rw[Ch hrow hl,← e] at this
     exact this
    ·have:=hi (j+1)
     rw[show i+1+j=i+(j+1) by omega,← this]
     simp
 refine wp_region_any hm ?_
 have hmt:=htl
 simp only[Cq,Bool.and_eq_true,decide_eq_true_eq] at hmt
 have hml:m<l.length:=by simpa using hmt.1.1.1
 obtain⟨vs,hl,he⟩:=BZ (l.take m) a0
 have inv0:HeadInv .any l.toArray m (Array.replicate l.toArray.size false) :=
  ⟨by simp,fun j oj _ hl=>(by rw[getD_replicate_false] at hl;cases hl),fun t _ ht=>getD_in (by simpa using ht) (getD_replicate_false _ _)⟩
 have hu:unl m (Array.replicate l.toArray.size false)=m:=by
  unfold unl
  rw[List.countP_eq_length.2 (fun b hb=>by
   have:=List.mem_of_mem_take hb
   simp at this
   rw[this.2];rfl)]
  simp;omega
 have:=DR (a0:=a0) (w0:=w0.drew) (Q:=Q) (l:=l) (m:=m) hok (by simpa using hΦ) htl htr hst
  (hall (fun vs hl hp=>⟨hobl vs hl (l.take m) 0 Φ ds (fun j=>by simp) hp.1,fun w hw=>by have:=hp.2 w hw;rwa [Ch hrow hl] at this⟩) h)
  m _ a0 w0.drew inv0 hu (hrf _) ⟨vs,hl,he.symm,fun i hi hb=>by rw[getD_replicate_false] at hb;cases hb⟩
 rw[show m+(l.toArray.size - m)=l.toArray.size by simp;omega] at this
 exact this
end
theorem Bh (g:Nat):∀ (vs:List Value) (o:Nat) (w:World),w.grownBy (w.setCells g o vs) (some g)
 | [],_,w=>World.grownBy.refl w _
 | v::vs,o,w=>by
  have h1:w.grownBy (w.setCell ⟨g,o,none⟩ v) (some g):=C4 v
  have h2:=Bh g vs (o+1) (w.setCell ⟨g,o,none⟩ v)
  exact⟨h2.os.trans h1.os,h2.tape.trans h1.tape,h2.output.trans h1.output,Nat.le_trans h1.size h2.size,fun k hk hne=>(h2.block k (Nat.lt_of_lt_of_le hk h1.size) hne).trans (h1.block k hk hne)⟩
theorem Da (g:Nat) {T:TypeId} {fr:Nat×Nat}:∀ (vs pre old:List Value) (w:World),old.length=vs.length→w.heap[g]?=some (.cells (pre++old).toArray T fr)→(w.setCells g pre.length vs).heap[g]?=some (.cells (pre++vs).toArray T fr)
 | [],pre,old,w,hl,h=>by
  obtain rfl:=List.eq_nil_of_length_eq_zero hl
  exact h
 | v::vs,pre,[],w,hl,h=>by simp at hl
 | v::vs,pre,u::old,w,hl,h=>by
  have h1:=AG (i:=pre.length) v h
  have e:(pre++u::old).toArray.setIfInBounds pre.length v=((pre++[v])++old).toArray:=by simp
  rw[e] at h1
  have:=Da g vs (pre++[v]) old _ (by simpa using hl) h1
  simpa[World.setCells] using this
theorem Gm {w:World} {g:Nat} {cs:List Value} {T:TypeId} (h:w.heap[g]?=some (.cells cs.toArray T (0,0))):w.there g 0 cs.length:=fun j hj=>by
 rw[Nat.zero_add,Ae h,Ay h]
 simp[hj]
theorem Ek {w:World} {g:Nat} {cs:List Value} {T:TypeId} {fr:Nat×Nat} (h:w.heap[g]?=some (.cells cs.toArray T fr)):w.rangeAt g 0 cs:=fun j v hj=>by
 rw[Nat.zero_add,Ae h]
 simpa using hj
section
variable {P:Program} {ops:Array Oper} {rest:List Oper} {o:Oper} {a:Act} {w:World} {Q:Exit→Act→World→Prop}
theorem BD {K:Act→World→Prop} (ty:TypeId) (x y:Operand) (ho:o.op=.store ty x y) {g:Nat} {cs old:List Value} {T:TypeId} (hx:a.eval x=.pointer (some ⟨g,0,none⟩)) (hy:a.eval y=.agg cs.toArray)
  (hi:(P.info? ty).map (·.size)=some cs.length) (h1:∀ v∈cs,v.oneCell'=true) (hg:w.heap[g]?=some (.cells old.toArray T (0,0))) (hl:old.length=cs.length)
  (h:∀ w',w'.heap[g]?=some (.cells cs.toArray T (0,0))→w.grownBy w' (some g)→K (a.put o.dst undef) w'):o.wp P a w K Q:=by
 refine wp_store_mid ty x y ho g 0 cs.toArray hx hy (by have:=Gm hg;rw[hl] at this;simpa using this) (by simpa using hi) (all_oneCell_toArray h1) (h _ ?_ ?_)
 ·have:=Da g cs [] old w hl (by simpa using hg)
  simpa using this
 ·exact Bh g _ 0 w
theorem Ak (hgd:o.guard=none) (ty:TypeId) (x y:Operand) (ho:o.op=.store ty x y) {g:Nat} {cs old:List Value} {T:TypeId} (hx:a.eval x=.pointer (some ⟨g,0,none⟩)) (hy:a.eval y=.agg cs.toArray)
  (hi:(P.info? ty).map (·.size)=some cs.length) (h1:∀ v∈cs,v.oneCell'=true) (hg:w.heap[g]?=some (.cells old.toArray T (0,0))) (hl:old.length=cs.length)
  (h:∀ w',w'.heap[g]?=some (.cells cs.toArray T (0,0))→w.grownBy w' (some g)→wpList P ops Q rest (a.put o.dst undef) w'):wpList P ops Q (o::rest) a w :=
 wpList_plain hgd fun _ hK=>BD ty x y ho hx hy hi h1 hg hl fun w' h2 h3=>hK _ _ (h w' h2 h3)
theorem Av {K:Act→World→Prop} (ty:TypeId) (x:Operand) (ho:o.op=.load ty x) {g:Nat} {cs:List Value} {T:TypeId} {fr:Nat×Nat} (d:TypeDesc) (hx:a.eval x=.pointer (some ⟨g,0,none⟩))
  (hu:P.underlying ty=some d) (hd:d.isRow=true) (hi:(P.info? ty).map (·.size)=some cs.length) (hg:w.heap[g]?=some (.cells cs.toArray T fr))
  (h:K (a.put o.dst (.agg cs.toArray)) w):o.wp P a w K Q :=
 wp_load_mid ty x ho g 0 hx cs d (Ek hg) hu hd hi h
theorem Al (hgd:o.guard=none) (ty:TypeId) (x:Operand) (ho:o.op=.load ty x) {g:Nat} {cs:List Value} {T:TypeId} {fr:Nat×Nat} (d:TypeDesc) (hx:a.eval x=.pointer (some ⟨g,0,none⟩))
  (hu:P.underlying ty=some d) (hd:d.isRow=true) (hi:(P.info? ty).map (·.size)=some cs.length) (hg:w.heap[g]?=some (.cells cs.toArray T fr))
  (h:wpList P ops Q rest (a.put o.dst (.agg cs.toArray)) w):wpList P ops Q (o::rest) a w :=
 wpList_load_mid hgd ty x ho g 0 hx cs d (Ek hg) hu hd hi h
end
theorem Af {wb:World} {p:Nat} {cs:Array Value} {T:TypeId} {fr:Nat×Nat} (h:wb.heap[p]?=some (.cells cs T fr)) (i:Nat) (v:Value) (hv:cs[i]?=some v):∀ W,Le wb W→W.cell? ⟨p,i,none⟩=some v :=
 fun W hW=>(Ae (hW.heap h) i).trans hv
theorem EZ {w:World} {o:Obj} {p:Nat} (h:w.heap.size=p):(w.alloc o).heap[p]?=some o:=by
 subst h;exact heap_alloc_new w o
def Ax (w:World) (v:Value) (r:Ending) (w':World):Prop:=r=.returned v∧Below w.heap.size w w'
def Fu (p:Nat×Int):List Value:=[.int .u64 p.1,.int .i64 p.2]
theorem F8 {w:World} {l:List (Nat×Int)} {A:Option Addr} {n cap:Nat} (hn:n=l.length) (hcap:n≤cap) (hx:∀ p∈l,(p.1:Int)<18446744073709551616) (hc:Bk w A (l.flatMap Fu)):RSl 2 RPart w l (.slice A n cap) :=
 DF hn hcap (fun _ _=>rfl) (fun x h=>⟨rfl,hx x h⟩) (by omega) hc
end Go.Proofs.YtmcndlofaanjiaaGreat
