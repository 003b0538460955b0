/- Texts of one claim, laid together: LibS Reg3 Ob -/
import Derived.Test.YtmcndlofaanjiaaGreatJo02
import Derived.Test.YtmcndlofaanjiaaGreatJo06
import Derived.Test.YtmcndlofaanjiaaGreatJo07
/- slices.Clone at the program's types (Written by gen_lib.py.) -/
namespace Go.Proofs.YtmcndlofaanjiaaGreat
open Go.RowKit
set_option linter.unusedVariables false
set_option maxRecDepth 100000
set_option maxHeartbeats 8000000
theorem slXper:SlT Tryz.prog 58 94 (.agg #[.int .i64 0,.int .i64 0,.int .i64 0]) 3 24:=⟨Tryz.underlying58,by kernel_rfl,rfl,by omega⟩
theorem slXtrk:SlT Tryz.prog 59 182 (.agg #[.int .i64 0,.int .i64 0,.int .i64 0,.slice none 0 0]) 4 48:=⟨Tryz.underlying59,by kernel_rfl,rfl,by omega⟩
theorem slXsub:SlT Tryz.prog 60 133 (.agg #[.int .i64 0,.int .i64 0,.int .i64 0,.int .i64 0,.bool false]) 5 40:=⟨Tryz.underlying60,by kernel_rfl,rfl,by omega⟩
theorem slXu32:SlT Tryz.prog 29 110 (.int .u32 0) 1 4:=⟨Tryz.underlying29,by kernel_rfl,rfl,by omega⟩
theorem slXu8:SlT Tryz.prog 25 5 (.int .u8 0) 1 1:=⟨Tryz.underlying25,by kernel_rfl,rfl,by omega⟩
theorem FW (w:World) (A:Option Addr) (k cap:Nat) (xs:List Value) (hc:Bk w A xs) (hlen:xs.length=k*3) (hA:A=none→k=0∧cap=0) (hk:k≤1000000) (h1:∀ u∈xs,u.oneCell'=true) :
  Calls Tryz.prog 68 #[.slice A k cap] w (fun e w'=>∃ v,e=.returned v∧w'.ownsRow w.heap.size 94 3 v k xs∧Le w w'):=by
 have hnil:=fun (W:World)=>Lib.run_eql_slice_nil (P:=Tryz.prog) W 58 94 A k cap 0 0 Tryz.underlying58
 have HC:=Aa hc
 have H1:=Aa h1
 have hm:=fun (x:World)=>World.ownsRow_made x #[] 0 (base:=w.heap.size) (e:=94) (size:=3)
 have HM:=Aa (hm w (Nat.le_refl _) (by simp[maxLen]) rfl)
 clear hm hc h1
 cases A with
 | none =>
  obtain⟨rfl,rfl⟩:=hA rfl
  obtain rfl:xs=[]:=List.eq_nil_of_length_eq_zero (by omega)
  clear hlen hA
  go_enter Tryz.func68,Tryz.ntmps68
  go_wp2_with fail
  go_ret
  exact⟨_,rfl,World.ownsRow_nil _ _ _ _,Le.refl _⟩
 | some a =>
  clear hA
  go_enter Tryz.func68,Tryz.ntmps68
  go_wp2_with (first | (at_builtin;go_must (refine Ci rfl slXper (.tmp 5) (.tmp 6) rfl HM.out rfl rfl (news:=xs) (fun h=>?_) hlen H1.out (by omega) (by omega) (AQ (Nat.le_refl _)) ?_);rotate_right;intro v' w' hown2 hg2 hat2))
  ·go_ret
   refine⟨_,rfl,by simpa using hown2,⟨((Below.refl _ _).alloc (Nat.le_refl _) _).grown hg2 (AQ (Nat.le_refl _)) (by simp[Value.ownBlock])⟩⟩
  ·obtain⟨b,off,h1,h2⟩:=HC.out h
   exact⟨b,off,by simpa using h1,fun j u hu=>(World.cell?_alloc_lt w _ _ (B2 (h2 j u hu))).trans (h2 j u hu)⟩
theorem FQ (w:World) (A:Option Addr) (k cap:Nat) (xs:List Value) (hc:Bk w A xs) (hlen:xs.length=k*4) (hA:A=none→k=0∧cap=0) (hk:k≤1000000) (h1:∀ u∈xs,u.oneCell'=true) :
  Calls Tryz.prog 70 #[.slice A k cap] w (fun e w'=>∃ v,e=.returned v∧w'.ownsRow w.heap.size 182 4 v k xs∧Le w w'):=by
 have hnil:=fun (W:World)=>Lib.run_eql_slice_nil (P:=Tryz.prog) W 59 182 A k cap 0 0 Tryz.underlying59
 have HC:=Aa hc
 have H1:=Aa h1
 have hm:=fun (x:World)=>World.ownsRow_made x #[] 0 (base:=w.heap.size) (e:=182) (size:=4)
 have HM:=Aa (hm w (Nat.le_refl _) (by simp[maxLen]) rfl)
 clear hm hc h1
 cases A with
 | none =>
  obtain⟨rfl,rfl⟩:=hA rfl
  obtain rfl:xs=[]:=List.eq_nil_of_length_eq_zero (by omega)
  clear hlen hA
  go_enter Tryz.func70,Tryz.ntmps70
  go_wp2_with fail
  go_ret
  exact⟨_,rfl,World.ownsRow_nil _ _ _ _,Le.refl _⟩
 | some a =>
  clear hA
  go_enter Tryz.func70,Tryz.ntmps70
  go_wp2_with (first | (at_builtin;go_must (refine Ci rfl slXtrk (.tmp 5) (.tmp 6) rfl HM.out rfl rfl (news:=xs) (fun h=>?_) hlen H1.out (by omega) (by omega) (AQ (Nat.le_refl _)) ?_);rotate_right;intro v' w' hown2 hg2 hat2))
  ·go_ret
   refine⟨_,rfl,by simpa using hown2,⟨((Below.refl _ _).alloc (Nat.le_refl _) _).grown hg2 (AQ (Nat.le_refl _)) (by simp[Value.ownBlock])⟩⟩
  ·obtain⟨b,off,h1,h2⟩:=HC.out h
   exact⟨b,off,by simpa using h1,fun j u hu=>(World.cell?_alloc_lt w _ _ (B2 (h2 j u hu))).trans (h2 j u hu)⟩
theorem El (w:World) (A:Option Addr) (k cap:Nat) (xs:List Value) (hc:Bk w A xs) (hlen:xs.length=k*5) (hA:A=none→k=0∧cap=0) (hk:k≤1000000) (h1:∀ u∈xs,u.oneCell'=true) :
  Calls Tryz.prog 69 #[.slice A k cap] w (fun e w'=>∃ v,e=.returned v∧w'.ownsRow w.heap.size 133 5 v k xs∧Le w w'):=by
 have hnil:=fun (W:World)=>Lib.run_eql_slice_nil (P:=Tryz.prog) W 60 133 A k cap 0 0 Tryz.underlying60
 have HC:=Aa hc
 have H1:=Aa h1
 have hm:=fun (x:World)=>World.ownsRow_made x #[] 0 (base:=w.heap.size) (e:=133) (size:=5)
 have HM:=Aa (hm w (Nat.le_refl _) (by simp[maxLen]) rfl)
 clear hm hc h1
 cases A with
 | none =>
  obtain⟨rfl,rfl⟩:=hA rfl
  obtain rfl:xs=[]:=List.eq_nil_of_length_eq_zero (by omega)
  clear hlen hA
  go_enter Tryz.func69,Tryz.ntmps69
  go_wp2_with fail
  go_ret
  exact⟨_,rfl,World.ownsRow_nil _ _ _ _,Le.refl _⟩
 | some a =>
  clear hA
  go_enter Tryz.func69,Tryz.ntmps69
  go_wp2_with (first | (at_builtin;go_must (refine Ci rfl slXsub (.tmp 5) (.tmp 6) rfl HM.out rfl rfl (news:=xs) (fun h=>?_) hlen H1.out (by omega) (by omega) (AQ (Nat.le_refl _)) ?_);rotate_right;intro v' w' hown2 hg2 hat2))
  ·go_ret
   refine⟨_,rfl,by simpa using hown2,⟨((Below.refl _ _).alloc (Nat.le_refl _) _).grown hg2 (AQ (Nat.le_refl _)) (by simp[Value.ownBlock])⟩⟩
  ·obtain⟨b,off,h1,h2⟩:=HC.out h
   exact⟨b,off,by simpa using h1,fun j u hu=>(World.cell?_alloc_lt w _ _ (B2 (h2 j u hu))).trans (h2 j u hu)⟩
theorem C5 (w:World) (A:Option Addr) (k cap:Nat) (xs:List Value) (hc:Bk w A xs) (hlen:xs.length=k*1) (hA:A=none→k=0∧cap=0) (hk:k≤1000000) (h1:∀ u∈xs,u.oneCell'=true) :
  Calls Tryz.prog 71 #[.slice A k cap] w (fun e w'=>∃ v,e=.returned v∧w'.ownsRow w.heap.size 110 1 v k xs∧Le w w'):=by
 have hnil:=fun (W:World)=>Lib.run_eql_slice_nil (P:=Tryz.prog) W 29 110 A k cap 0 0 Tryz.underlying29
 have HC:=Aa hc
 have H1:=Aa h1
 have hm:=fun (x:World)=>World.ownsRow_made x #[] 0 (base:=w.heap.size) (e:=110) (size:=1)
 have HM:=Aa (hm w (Nat.le_refl _) (by simp[maxLen]) rfl)
 clear hm hc h1
 cases A with
 | none =>
  obtain⟨rfl,rfl⟩:=hA rfl
  obtain rfl:xs=[]:=List.eq_nil_of_length_eq_zero (by omega)
  clear hlen hA
  go_enter Tryz.func71,Tryz.ntmps71
  go_wp2_with fail
  go_ret
  exact⟨_,rfl,World.ownsRow_nil _ _ _ _,Le.refl _⟩
 | some a =>
  clear hA
  go_enter Tryz.func71,Tryz.ntmps71
  go_wp2_with (first | (at_builtin;go_must (refine Ci rfl slXu32 (.tmp 5) (.tmp 6) rfl HM.out rfl rfl (news:=xs) (fun h=>?_) hlen H1.out (by omega) (by omega) (AQ (Nat.le_refl _)) ?_);rotate_right;intro v' w' hown2 hg2 hat2))
  ·go_ret
   refine⟨_,rfl,by simpa using hown2,⟨((Below.refl _ _).alloc (Nat.le_refl _) _).grown hg2 (AQ (Nat.le_refl _)) (by simp[Value.ownBlock])⟩⟩
  ·obtain⟨b,off,h1,h2⟩:=HC.out h
   exact⟨b,off,by simpa using h1,fun j u hu=>(World.cell?_alloc_lt w _ _ (B2 (h2 j u hu))).trans (h2 j u hu)⟩
theorem clone_u8 (w:World) (A:Option Addr) (k cap:Nat) (xs:List Value) (hc:Bk w A xs) (hlen:xs.length=k*1) (hA:A=none→k=0∧cap=0) (hk:k≤1000000) (h1:∀ u∈xs,u.oneCell'=true) :
  Calls Tryz.prog 55 #[.slice A k cap] w (fun e w'=>∃ v,e=.returned v∧w'.ownsRow w.heap.size 5 1 v k xs∧Le w w'):=by
 have hnil:=fun (W:World)=>Lib.run_eql_slice_nil (P:=Tryz.prog) W 25 5 A k cap 0 0 Tryz.underlying25
 have HC:=Aa hc
 have H1:=Aa h1
 have hm:=fun (x:World)=>World.ownsRow_made x #[] 0 (base:=w.heap.size) (e:=5) (size:=1)
 have HM:=Aa (hm w (Nat.le_refl _) (by simp[maxLen]) rfl)
 clear hm hc h1
 cases A with
 | none =>
  obtain⟨rfl,rfl⟩:=hA rfl
  obtain rfl:xs=[]:=List.eq_nil_of_length_eq_zero (by omega)
  clear hlen hA
  go_enter Tryz.func55,Tryz.ntmps55
  go_wp2_with fail
  go_ret
  exact⟨_,rfl,World.ownsRow_nil _ _ _ _,Le.refl _⟩
 | some a =>
  clear hA
  go_enter Tryz.func55,Tryz.ntmps55
  go_wp2_with (first | (at_builtin;go_must (refine Ci rfl slXu8 (.tmp 5) (.tmp 6) rfl HM.out rfl rfl (news:=xs) (fun h=>?_) hlen H1.out (by omega) (by omega) (AQ (Nat.le_refl _)) ?_);rotate_right;intro v' w' hown2 hg2 hat2))
  ·go_ret
   refine⟨_,rfl,by simpa using hown2,⟨((Below.refl _ _).alloc (Nat.le_refl _) _).grown hg2 (AQ (Nat.le_refl _)) (by simp[Value.ownBlock])⟩⟩
  ·obtain⟨b,off,h1,h2⟩:=HC.out h
   exact⟨b,off,by simpa using h1,fun j u hu=>(World.cell?_alloc_lt w _ _ (B2 (h2 j u hu))).trans (h2 j u hu)⟩
section
variable (q:Nat) (N S:World→World→Prop)
def EI:Nat→List BQ→Prop
 | _,[]=>True
 | i,φ::φs=>(∀ us v w w',(cond (i==q) N S) w w'→φ us v w→φ us v w')∧EI (i+1) φs
end
theorem EI.use {q:Nat} {N S:World→World→Prop}:∀ {Φ:List BQ} {i0:Nat},EI q N S i0 Φ→∀ k φ,Φ[k]?=some φ→∀ us v w w',(cond (i0+k==q) N S) w w'→φ us v w→φ us v w'
 | [],_,_,_,_,h,_,_,_,_,_,_=>by simp at h
 | φ::φs,i0,h,0,ψ,hm,us,v,w,w',hc,hp=>by
  simp only[List.getElem?_cons_zero,Option.some.injEq] at hm
  subst hm
  exact h.1 us v w w' (by simpa using hc) hp
 | φ::φs,i0,h,k+1,ψ,hm,us,v,w,w',hc,hp=>EI.use h.2 k ψ (by simpa using hm) us v w w' (by rw[show i0+1+k=i0+(k+1) by omega];exact hc) hp
theorem StQ.is {i q:Nat} {N S:World→World→Prop} {c:Value}:∀ us v w w',(cond (i==q) N S) w w'→IsD c us v w→IsD c us v w':=fun _ _ _ _ _ h=>h
section
variable (q:Nat) (N S:World→World→Prop) (P:Program) (ops:Array Oper) (Q:Exit→Act→World→Prop) (w0:World) (Φ:List BQ) (dsA:List (List Nat)) (A:List Value→Act) (vs:List Value)
def DU:Nat→List Oper→List BQ→List (List Nat)→Prop
 | i,o::os,φ::φs,d::ds=>(∀ w,(cond (i==q) N S) w0 w→AU Φ dsA vs w d (∀ K:Act→World→Prop,(∀ v w',(cond (i==q) S N) w w'→φ (B6 d vs) v w'→K (A (vs.set i v)) w') →
   if Region.wanted o (yielded ops (A vs).tmps)=true then o.wp P (A vs) w K Q else K (A (vs.set i undef)) w))∧DU (i+1) os φs ds
 | _,_,_,_=>True
end
theorem DU.use {q N S P ops Q w0 Φ dsA A vs}:∀ {os:List Oper} {n:Nat} {φs:List BQ} {ds:List (List Nat)},DU q N S P ops Q w0 Φ dsA A vs n os φs ds→∀ (i:Nat) (o:Oper) (φ:BQ) (d:List Nat),os[i]?=some o→φs[i]?=some φ→ds[i]?=some d →
  ∀ w,(cond (n+i==q) N S) w0 w→AU Φ dsA vs w d (∀ K:Act→World→Prop,(∀ v w',(cond (n+i==q) S N) w w'→φ (B6 d vs) v w'→K (A (vs.set (n+i) v)) w') →
   if Region.wanted o (yielded ops (A vs).tmps)=true then o.wp P (A vs) w K Q else K (A (vs.set (n+i) undef)) w)
 | o::os,n,φ::φs,d::ds,h,0,o',φ',d',ho,hφ,hd=>by
  simp only[List.getElem?_cons_zero,Option.some.injEq] at ho hφ hd
  subst ho hφ hd
  exact h.1
 | o::os,n,φ::φs,d::ds,h,i+1,o',φ',d',ho,hφ,hd=>by
  have:=DU.use h.2 i o' φ' d' (by simpa using ho) (by simpa using hφ) (by simpa using hd)
  rw[show n+1+i=n+(i+1) by omega] at this
  exact this
 | [],_,_,_,_,_,_,_,_,ho,_,_=>by simp at ho
 | _::_,_,[],_,_,_,_,_,_,_,hφ,_=>by simp at hφ
 | _::_,_,_::_,[],_,_,_,_,_,_,_,hd=>by simp at hd
section
variable {P:Program} {Q:Exit→Act→World→Prop} {q:Nat} {N S:World→World→Prop} {Φ:List BQ} {ds:List (List Nat)} {a0:Act} {w0:World} {l:List Oper} {m:Nat}
theorem H8 {ops:Array Oper} {listed:Array Bool} {vs:List Value} {i:Nat} {v:Value} {w w':World} {φ:BQ} {d:List Nat} {M:Nat} (hst:∀ k φ',k≠i→Φ[k]?=some φ'→∀ us v,φ' us v w→φ' us v w') (hφ:Φ[i]?=some φ) (hd:ds[i]?=some d) (hi:i<vs.length) 
  (hv:φ (B6 d vs) v w') (hcl:Eq ops listed) (hnl:listed.getD i true=false) (hfw:∀ j∈d,j≠i)
  (hdep:∀ k dk,k<M→ds[k]?=some dk→listed.getD k false=true→∀ j∈dk,listed.getD j false=true)
  (hf:∀ k,k<M→listed.getD k false=true→AH Φ ds vs w k):∀ k,k<M→(listed.setIfInBounds i true).getD k false=true→AH Φ ds (vs.set i v) w' k:=by
 intro k hkM hk
 by_cases hki:k=i
 ·subst hki
  have hsv:(vs.set k v)[k]?=some v:=List.getElem?_set_self hi
  rw[AH,hφ,hd,hsv]
  show φ (B6 d (vs.set k v)) v w'
  rw[DT hfw]
  exact hv
 ·rw[getD_set_ne false (fun e=>hki e.symm)] at hk
  have h4:=hf k hkM hk
  have hsv:(vs.set i v)[k]?=vs[k]?:=by simp[Ne.symm hki]
  unfold AH at h4 ⊢
  rw[hsv]
  cases hk1:Φ[k]? with
  | none=>trivial
  | some φ' =>
   cases hk3:ds[k]? with
   | none=>trivial
   | some dk =>
    cases hk2:vs[k]? with
    | none=>trivial
    | some u =>
     simp only[hk1,hk2,hk3] at h4 ⊢
     rw[DT (fun j hj e=>by
      subst e
      have:=hdep k dk hkM hk3 hk j hj
      rw[Array.getD_eq_getD_getElem?] at this hnl
      cases hh:listed[j]? with
      | none=>rw[hh] at hnl;cases hnl
      | some b=>rw[hh] at this hnl;simp at this hnl;rw[this] at hnl;cases hnl)]
     exact hst k φ' hki hk1 _ u h4
theorem Dv {A:List Value→Act} (hA:∀ vs:List Value,vs.length=(l.take m).length→A vs=Am (l.take m) vs a0) (hok:CZ (l.take m).toArray ds=true) (hΦ:Φ.length=(l.take m).length) (htl:Cq l.toArray m=true) (htrN:∀ a b c,N a b→N b c→N a c) (htr:∀ a b c,S a b→S b c→S a c) (hNS:∀ a b,N a b→S a b) (hst:EI q N S 0 Φ)
  (h:AR (l.take m) fun vs=>DU q N S P l.toArray Q w0 Φ ds A vs 0 (l.take m) Φ ds∧∀ w,S w0 w→AE w vs Φ ds vs (wpList P l.toArray Q (l.drop m) (A vs) w)) :
  ∀ (f:Nat) (listed:Array Bool) (a:Act) (w:World),HeadInv .any l.toArray m listed→Eq l.toArray listed→unl m listed=f→S w0 w→(listed.getD q false=false→N w0 w) →
   (∃ vs:List Value,vs.length=(l.take m).length∧a=A vs∧∀ i,i<m→listed.getD i false=true→AH Φ ds vs w i)→wpAny P .any l.toArray Q (f+(l.toArray.size - m)) listed a w:=by
 simp only[Cq,Bool.and_eq_true,decide_eq_true_eq] at htl
 obtain⟨⟨⟨hm,hsink⟩,hchain⟩,hseq⟩:=htl
 have hml:m<l.length:=by simpa using hm
 have htk:(l.take m).length=m:=by simp;omega
 have hget:∀ i,i<m→(l.take m).toArray[i]?=l.toArray[i]?:=fun i hi=>by simp[hi]
 simp only[CZ,Bool.and_eq_true,beq_iff_eq,decide_eq_true_eq] at hok
 obtain⟨⟨⟨hdl,hnd⟩,hfw⟩,hdp⟩:=hok
 have hsz:(l.take m).toArray.size=m:=by simp;omega
 rw[hsz] at hfw hdp hdl
 have hnd:((l.take m).filterMap (·.dst)).Nodup:=by simpa using hnd
 have hready:∀ (listed:Array Bool),HeadInv .any l.toArray m listed→(∃ i,i<m∧listed.getD i true=false)→Region.ready .any l.toArray listed≠[]:=by
  rintro listed inv ⟨i,hi,hb⟩
  induction i using Nat.strongRecOn with
  | _ i ih =>
   by_cases hex:∃ j,j<i∧listed.getD j true=false
   ·obtain⟨j,hj,hb'⟩:=hex
    exact ih j hj (by omega) hb'
   ·have hin:i<l.toArray.size:=by omega
    have hmem:i∈Region.ready .any l.toArray listed:=by
     refine mem_ready.2 ⟨hb,l.toArray[i],by simp at hin;simp[hin],fun e he hbd=>?_⟩
     have h1:=List.all_eq_true.1 hfw i (by simpa using hi)
     rw[hget i hi,Array.getElem?_eq_getElem hin] at h1
     have h2:=Array.all_eq_true_iff_forall_mem.1 h1 e he
     simp only[hbd,Bool.not_true,Bool.false_or,decide_eq_true_eq] at h2
     cases hl:listed.getD e.on false with
     | true=>rfl
     | false =>
      exact absurd ⟨e.on,h2,getD_in (by rw[inv.size];omega) hl⟩ hex
    intro h0
    rw[h0] at hmem
    cases hmem
 -- what an operation's facts lean on are edges of it
 have hedge:∀ k dk o,k<m→ds[k]?=some dk→l.toArray[k]?=some o→∀ j∈dk,∃ e∈o.after,Region.binds .any e=true∧e.on=j∧j<k:=by
  intro k dk o hk hd ho j hj
  have h2:=List.all_eq_true.1 hdp k (by simpa using hk)
  rw[hget k hk,ho,hd] at h2
  simp only at h2
  have h3:=List.all_eq_true.1 h2 j hj
  obtain⟨e,he,hb⟩:=Array.any_eq_true'.1 h3
  simp only[Bool.and_eq_true,beq_iff_eq] at hb
  have h4:=List.all_eq_true.1 hfw k (by simpa using hk)
  rw[hget k hk,ho] at h4
  have h5:=Array.all_eq_true_iff_forall_mem.1 h4 e he
  simp only[hb.1,Bool.not_true,Bool.false_or,decide_eq_true_eq] at h5
  exact⟨e,he,hb.1,hb.2,by rw[← hb.2];exact h5⟩
 intro f
 induction f with
 | zero =>
  intro listed a w inv hcl hu hw hwN ⟨vs,hl,ha,hf⟩
  subst ha
  have hall:∀ i,i<m→listed.getD i false=true:=fun i hi=>by
   have hlt:i<listed.toList.length:=by simp[inv.size];simp at hm;omega
   have h0:=List.countP_eq_zero.1 hu (listed.toList[i]) (List.mem_of_getElem? (i:=i) (by rw[List.getElem?_take_of_lt hi,List.getElem?_eq_getElem hlt]))
   simp at hlt
   simp[hlt] at h0 ⊢
   exact h0
  have hle:listed=(List.replicate m true++List.replicate (l.toArray.size - m) false).toArray:=by
   apply Array.ext
   ·rw[inv.size];simp;omega
   ·intro i h1 h2
    by_cases hi:i<m
    ·have:=hall i hi
     simp[h1] at this
     rw[this]
     simp[hi]
    ·have:=inv.tail i (by omega) (by rw[← inv.size];exact h1)
     simp[h1] at this
     rw[this,List.getElem_toArray,List.getElem_append_right (by simp;omega)]
     simp
  have hq:=((h.use vs (by simpa using hl)).2 w hw).use (fun i φ d v h1 h2 h3=>by
   have hi:i<m:=by have:=(List.getElem?_eq_some_iff.1 h1).1;omega
   have:=hf i hi (hall i hi)
   rw[AH,h1,h2,h3] at this
   exact this)
  have:=wpAny_of_seq (md:=.any) (Q':=Q) (ops:=l.toArray) (l.drop m) m listed _ w (fun j=>by simp[List.getElem?_drop]) (by rw[hle];simpa using hseq) hq
  simpa using this
 | succ f ih =>
  intro listed a w inv hcl hu hw hwN ⟨vs,hl,ha,hf⟩
  subst ha
  have hex:∃ i,i<m∧listed.getD i true=false:=by
   have hp:0<(listed.toList.take m).countP (fun b=>!b):=by unfold unl at hu;omega
   obtain⟨b,hb,hbf⟩:=List.countP_pos_iff.1 hp
   obtain⟨i,hi,rfl⟩:=List.getElem_of_mem hb
   simp only[List.length_take] at hi
   refine⟨i,by omega,?_⟩
   have hi2:i<listed.size:=by simp at hi;omega
   simp at hbf
   simp[hi2,hbf]
  rw[show f+1+(l.toArray.size - m)=(f+(l.toArray.size - m))+1 by omega]
  refine⟨fun hr=>absurd hr (hready listed inv hex),fun i hi=>?_⟩
  have him:i<m:=by
   obtain⟨i0,hi0,hb0⟩:=hex
   rcases Nat.lt_or_ge i m with h' | h'
   ·exact h'
   ·exact absurd hi (tail_waits hsink hchain hm inv _ i0 rfl hi0 hb0 i h')
  obtain⟨h0,o,ho,hall⟩:=mem_ready.1 hi
  have hlt:i<listed.size:=by rw[inv.size];omega
  have ho':(l.take m)[i]?=some o:=by
   have:=hget i him
   rw[ho] at this
   simpa using this
  obtain⟨φ,hφ⟩:∃ φ,Φ[i]?=some φ:=⟨Φ[i]'(by omega),by simp⟩
  obtain⟨d,hd⟩:∃ d,ds[i]?=some d:=⟨ds[i]'(by omega),by simp⟩
  have hO0:=(h.use vs (by simpa using hl)).1.use i o φ d ho' hφ hd w (by
   rw[Nat.zero_add]
   by_cases hiq:i=q
   ·rw[show (i==q)=true by simpa using hiq]
    refine hwN ?_
    subst hiq
    rw[Array.getD_eq_getD_getElem?] at h0 ⊢
    cases hh:listed[i]? with
    | none=>rw[hh] at h0;cases h0
    | some b=>rw[hh] at h0;simpa using h0
   ·rw[show (i==q)=false by simpa using hiq]
    exact hw)
  rw[Nat.zero_add] at hO0
  have hO:=hO0.use (fun j hj=>by
   obtain⟨e,he,hb,hej,hlt⟩:=hedge i d o him hd ho j hj
   rw[← hej]
   exact hf _ (by omega) (hall e he hb))
  have e:∀ v,A (vs.set i v)=(A vs).put o.dst v:=fun v=>by rw[hA _ (by simpa using hl),hA _ hl,BI _ _ _ _ _ _ hnd (by simpa using hl) ho']
  refine wpOp_step ho fun K hK=>?_
  suffices hs:∀ v w',(cond (i==q) S N) w w'→φ (B6 d vs) v w'→K (A (vs.set i v)) w' by
   have:=hO K hs
   rw[e] at this
   exact this
  intro v w' hR hv
  have hRS:S w w':=by
   by_cases hiq:i=q
   ·rw[show (i==q)=true by simpa using hiq] at hR;exact hR
   ·rw[show (i==q)=false by simpa using hiq] at hR;exact hNS _ _ hR
  rw[e]
  refine hK _ _ ?_
  rw[← e]
  refine ih _ _ _ (inv.set hi him) (hcl.set hlt ho hall) ?_ (htr _ _ _ hw hRS) ?_ ⟨vs.set i v,by simpa using hl,rfl,?_⟩
  ·have h1:(listed.toList.take m)[i]?=some false:=by
    rw[List.getElem?_take_of_lt him]
    simp[hlt] at h0 ⊢
    exact h0
   have:=BW _ _ h1
   unfold unl at hu ⊢
   have e:(listed.setIfInBounds i true).toList.take m=(listed.toList.take m).set i true:=by
    rw[← List.take_set]
    simp
   rw[e]
   omega
  ·intro hq
   by_cases hiq:i=q
   ·subst hiq
    simp[hlt] at hq
   ·rw[getD_set_ne false hiq] at hq
    rw[show (i==q)=false by simpa using hiq] at hR
    exact htrN _ _ _ (hwN hq) hR
  ·exact H8 (M:=m) (fun k φ' hki hk us v=>by
     refine hst.use k φ' hk us v w w' ?_
     rw[Nat.zero_add]
     by_cases hkq:k=q
     ·rw[show (k==q)=true by simpa using hkq]
      rw[show (i==q)=false by simpa using fun e=>hki (hkq.trans e.symm)] at hR
      exact hR
     ·rw[show (k==q)=false by simpa using hkq]
      exact hRS) hφ hd (by omega) hv hcl h0 (fun j hj=>by obtain⟨e,_,_,_,hlt⟩:=hedge i d o him hd ho j hj;omega)
    (fun k dk hk hdk hlk j hj=>by
     obtain⟨ok,hok⟩:∃ ok,l.toArray[k]?=some ok:=⟨l[k]'(by omega),by simp⟩
     obtain⟨e,he,hb,hej,_⟩:=hedge k dk ok hk hdk hok j hj
     rw[← hej]
     exact hcl k ok hlk hok e he hb) hf
theorem AB {id:Nat} (q m n k:Nat) (N S:World→World→Prop) (Φ:List BQ) (ds:List (List Nat)) (hm:P.follows .mixedOrders=true) (hok:CZ (l.take m).toArray ds=true) (hΦ:(Φ.length==(l.take m).length)=true) (htl:Cq l.toArray m=true)
  (hrow:Ih (l.take m) n k a0.tmps.size=true) (hrf:∀ a,N a a) (htrN:∀ a b c,N a b→N b c→N a c) (htr:∀ a b c,S a b→S b c→S a c) (hNS:∀ a b,N a b→S a b) (hst:EI q N S 0 Φ)
  (h:AR (l.take m) fun vs=>DU q N S P l.toArray Q w0.drew Φ ds (AD (l.take m) n k a0) vs 0 (l.take m) Φ ds∧∀ w,S w0.drew w→AE w vs Φ ds vs (wpList P l.toArray Q (l.drop m) (AD (l.take m) n k a0 vs) w)):(Code.region id l.toArray true).wp P Q a0 w0:=by
 refine wp_region_any hm ?_
 have hmt:=htl
 simp only[Cq,Bool.and_eq_true,decide_eq_true_eq] at hmt
 have hml:m<l.length:=by simpa using hmt.1.1.1
 obtain⟨vs,hl,he⟩:=BZ (l.take m) a0
 have inv0:HeadInv .any l.toArray m (Array.replicate l.toArray.size false) :=
  ⟨by simp,fun j oj _ hl=>(by rw[getD_replicate_false] at hl;cases hl),fun t _ ht=>getD_in (by simpa using ht) (getD_replicate_false _ _)⟩
 have hu:unl m (Array.replicate l.toArray.size false)=m:=by
  unfold unl
  rw[List.countP_eq_length.2 (fun b hb=>by
   have:=List.mem_of_mem_take hb
   simp at this
   rw[this.2];rfl)]
  simp;omega
 have hA:∀ vs:List Value,vs.length=(l.take m).length→AD (l.take m) n k a0 vs=Am (l.take m) vs a0:=fun vs hl=>Ch hrow hl
 have:=Dv (a0:=a0) (w0:=w0.drew) (Q:=Q) (l:=l) (m:=m) hA hok (by simpa using hΦ) htl htrN htr hNS hst h
  m _ a0 w0.drew inv0 (fun k o hk=>by rw[getD_replicate_false] at hk;cases hk) hu (hNS _ _ (hrf _)) (fun _=>hrf _) ⟨vs,hl,by rw[hA vs hl,he],fun i hi hb=>by rw[getD_replicate_false] at hb;cases hb⟩
 rw[show m+(l.toArray.size - m)=l.toArray.size by simp;omega] at this
 exact this
end
structure Gr (row:Option Nat) (w w':World):Prop where
 out:w.grownBy w' row
theorem Gr.of_le {row:Option Nat} {w w':World} (h:Le w w'):Gr row w w':=⟨⟨h.out.os,h.out.tape,h.out.output,h.out.size,fun k hk _=>h.out.block k hk⟩⟩
theorem Gr.trans {row:Option Nat} {a b c:World} (h:Gr row a b) (h':Gr row b c):Gr row a c :=
 ⟨⟨h'.out.os.trans h.out.os,h'.out.tape.trans h.out.tape,h'.out.output.trans h.out.output,Nat.le_trans h.out.size h'.out.size,fun k hk hne=>(h'.out.block k (Nat.lt_of_lt_of_le hk h.out.size) hne).trans (h.out.block k hk hne)⟩⟩
theorem Gr.heap {row:Option Nat} {w w':World} (h:Gr row w w') {k:Nat} {o:Obj} (hk:w.heap[k]?=some o) (hne:row≠some k):w'.heap[k]?=some o:=Ai h.out hk hne
theorem Gr.size {row:Option Nat} {w w':World} (h:Gr row w w'):w.heap.size≤w'.heap.size:=h.out.size
def Gn (M:Nat→Prop) (w:World) (k:Nat):Prop:=M k∨w.heap.size≤k
theorem AS {w:World} {a b:Nat} {cs cs':Array Value} {T T':TypeId} {fr fr':Nat×Nat} (ha:w.heap[a]?=some (.cells cs T fr)) (hb:w.heap[b]?=some (.cells cs' T' fr')) (hn:T≠T'):a≠b:=by
 intro e
 rw[e,hb] at ha
 injection ha with ha
 injection ha with _ ha _
 exact hn ha.symm
structure AA (M:Nat→Prop) (w:World) (T:TypeId) (s:Nat) (v:Value) (xs:List (List Value)):Prop where
 own:w.ownsRow 0 T s v xs.length xs.flatten
 blk:∀ k,v.ownBlock=some k→M k
 len:∀ x∈xs,x.length=s
section
variable {M M':Nat→Prop} {w w':World} {T:TypeId} {s:Nat} {v:Value} {xs:List (List Value)}
theorem Bp {base n:Nat} {xs:List Value} {S:Nat→Prop} (h:w.ownsRow base T s v n xs) (hf:Fp S w w') (hs:∀ k,v.ownBlock=some k→¬ S k):w'.ownsRow base T s v n xs:=by
 refine⟨h.1,?_⟩
 rcases h.2 with h1 | ⟨g,cap,cur,hv,hb,hg,r⟩
 ·exact .inl h1
 ·exact .inr ⟨g,cap,cur,hv,hb,hf.heap hg (hs g (by rw[hv];rfl)),r⟩
theorem AA.nil:AA M w T s (.slice none 0 0) []:=⟨World.ownsRow_nil _ _ _ _,by simp[Value.ownBlock],by simp⟩
theorem AA.fp {S:Nat→Prop} (h:AA M w T s v xs) (hf:Fp S w w') (hs:∀ k,S k→¬ M k):AA M w' T s v xs :=
 ⟨Bp h.own hf (fun k hk hS=>hs k hS (h.blk k hk)),h.blk,h.len⟩
theorem AA.le (h:AA M w T s v xs) (hl:Le w w'):AA M w' T s v xs:=h.fp (S:=fun _=>False) (Fp.of_le hl) (fun _ h=>h.elim)
theorem AA.lt (h:AA M w T s v xs) {k:Nat} (hk:v.ownBlock=some k):k<w.heap.size:=(h.own.lt k hk).2
theorem AA.mono (h:AA M w T s v xs) (hm:∀ k,k<w.heap.size→M k→M' k):AA M' w T s v xs:=⟨h.own,fun k hk=>hm k (h.lt hk) (h.blk k hk),h.len⟩
theorem AA.val (h:AA M w T s v xs):(v=.slice none 0 0∧xs=[])∨∃ g cap cur,v=.slice (some ⟨g,0,none⟩) xs.length cap∧M g∧w.heap[g]?=some (.cells cur T (0,0))∧xs.length≤cap∧cap≤maxLen∧cur.size=cap*s∧Cz cur.toList s xs:=by
 rcases h.own.2 with ⟨h1,h2⟩ | ⟨g,cap,cur,hv,_,hg,hc,hm,hs,ht⟩
 ·exact .inl ⟨h1,List.eq_nil_of_length_eq_zero h2⟩
 ·exact .inr ⟨g,cap,cur,hv,h.blk g (by rw[hv];rfl),hg,hc,hm,hs,Cz.of_take h.len ht⟩
theorem AA.cells (h:AA M w T s v xs):∃ A cap,v=.slice A xs.length cap∧Bk w A xs.flatten∧(A=none→xs=[]∧cap=0)∧xs.length≤cap:=by
 rcases h.val with ⟨rfl,rfl⟩ | ⟨g,cap,cur,rfl,_,hg,hc,hm,hs,hr⟩
 ·exact⟨none,0,rfl,fun h=>absurd rfl h,fun _=>⟨rfl,rfl⟩,Nat.le_refl _⟩
 ·refine⟨some ⟨g,0,none⟩,cap,rfl,fun _=>⟨g,0,rfl,fun j u hj=>?_⟩,fun h=>(by cases h),hc⟩
  have:=h.own.cells (g:=g) rfl j u hj
  rwa [BG] at this
theorem AA.other {b:Nat} {cs:Array Value} {T':TypeId} {fr:Nat×Nat} (h:AA M w T s v xs) (hg:w.grownBy w' (some b)) (hb:w.heap[b]?=some (.cells cs T' fr)) (hn:T≠T'):AA M w' T s v xs :=
 ⟨Bp h.own (Fp.of_grown (S:=fun k=>k=b) hg rfl) (fun k hk e=>by
  subst e
  rcases h.val with ⟨rfl,_⟩ | ⟨g,cap,cur,rfl,_,h1,_⟩
  ·simp[Value.ownBlock] at hk
  ·simp only[Value.ownBlock,Option.some.injEq] at hk
   exact AS h1 hb hn hk),h.blk,h.len⟩
end
theorem AA.row_ne {M:Nat→Prop} {w:World} {T T':TypeId} {s:Nat} {v:Value} {xs:List (List Value)} {k:Nat} {cs:Array Value} {fr:Nat×Nat} (h:AA M w T s v xs) (hk:w.heap[k]?=some (.cells cs T' fr)) (hn:T≠T'):v.ownBlock≠some k:=fun e=>by
 rcases h.val with ⟨e1,_⟩ | ⟨g,cap,cur,e1,_,hg,_⟩
 ·rw[e1] at e;simp[Value.ownBlock] at e
 ·rw[e1] at e
  simp only[Value.ownBlock,Option.some.injEq] at e
  exact AS hg hk hn e
structure BsF (row:Option Nat) (x:List Value) (T:TypeId) (v:Value) (W:World):Prop where
 out:∃ g:Nat,v=.slice (some ⟨g,0,none⟩) 1 1∧row≠some g∧W.heap[g]?=some (.cells x.toArray T (0,0))
theorem BsF.gr {row:Option Nat} {x:List Value} {T:TypeId} {v:Value} {w w':World} (h:BsF row x T v w) (hg:Gr row w w'):BsF row x T v w':=by
 obtain⟨g,e1,e2,e3⟩:=h.out
 exact⟨g,e1,e2,hg.heap e3 e2⟩
theorem BsF.new {row:Option Nat} (x:List Value) (T:TypeId) {w:World} (h:∀ k,row=some k→k<w.heap.size):BsF row x T (.slice (some ⟨w.heap.size,0,none⟩) 1 1) (w.alloc (.cells x.toArray T)) :=
 ⟨_,rfl,fun e=>Nat.lt_irrefl _ (h _ e),heap_alloc_new _ _⟩
structure EB (W0:World) (T:TypeId) (s:Nat) (v:Value) (xs:List (List Value)) (x:List Value) (v':Value) (W:World):Prop where
 own:W.ownsRow 0 T s v' (xs.length+1) (xs.flatten++x)
 gr:Gr v.ownBlock W0 W
 blk:v'.ownBlock=v.ownBlock∨∃ g,v'.ownBlock=some g∧W0.heap.size≤g
section
variable {M:Nat→Prop} {W0 w w':World} {T:TypeId} {s:Nat} {v v':Value} {xs:List (List Value)} {x:List Value}
theorem own_le {base n:Nat} {ys:List Value} (h:w.ownsRow base T s v n ys) (hl:Le w w'):w'.ownsRow base T s v n ys:=by
 refine⟨h.1,?_⟩
 rcases h.2 with h1 | ⟨g,cap,cur,hv,hb,hg,r⟩
 ·exact .inl h1
 ·exact .inr ⟨g,cap,cur,hv,hb,hl.heap hg,r⟩
theorem EB.le (h:EB W0 T s v xs x v' w) (hl:Le w w'):EB W0 T s v xs x v' w':=⟨own_le h.own hl,h.gr.trans (Gr.of_le hl),h.blk⟩
theorem EB.ownR (h:EB W0 T s v xs x v' w) (h0:AA M W0 T s v xs) (hx:x.length=s):AA (Gn M W0) w T s v' (xs++[x]):=by
 refine⟨by rw[List.length_append,List.flatten_append];simpa using h.own,fun k hk=>?_,fun y hy=>?_⟩
 ·rcases h.blk with e | ⟨g,e,hg⟩
  ·exact .inl (h0.blk k (by rw[← e];exact hk))
  ·rw[e] at hk;injection hk with hk;exact .inr (by rw[← hk];exact hg)
 ·rcases List.mem_append.1 hy with hy | hy
  ·exact h0.len y hy
  ·rw[List.mem_singleton.1 hy];exact hx
theorem EB.heap (h:EB W0 T s v xs x v' w) (h0:AA M W0 T s v xs) {k:Nat} {cs:Array Value} {T':TypeId} {fr:Nat×Nat} (hk:W0.heap[k]?=some (.cells cs T' fr)) (hn:T≠T'):w.heap[k]?=some (.cells cs T' fr) :=
 h.gr.heap hk (fun e=>by
  rcases h0.val with ⟨e1,_⟩ | ⟨g,cap,cur,e1,_,hg,_⟩
  ·rw[e1] at e;simp[Value.ownBlock] at e
  ·rw[e1] at e
   simp only[Value.ownBlock,Option.some.injEq] at e
   exact AS hg hk hn e)
theorem EB.fp (h:EB W0 T s v xs x v' w) (h0:AA M W0 T s v xs):Fp M W0 w :=
 ⟨h.gr.out.os,h.gr.out.tape,h.gr.out.output,h.gr.out.size,fun k hk hs=>h.gr.out.block k hk (fun e=>hs (h0.blk k e.symm))⟩
end
section
variable {P:Program} {M:Nat→Prop} {W0 w:World} {T t:TypeId} {z:Value} {s bytes:Nat} {v u:Value} {xs:List (List Value)} {x:List Value}
theorem Gv {o:Oper} {a:Act} {K:Act→World→Prop} {Q:Exit→Act→World→Prop} (S:SlT P t T z s bytes) (i j:Operand) (ho:o.op=.call { callee:=.builtin .append,args:=#[i,j],argTypes:=#[t,t] })
  (h:AA M W0 T s v xs) (hle:Le W0 w) (hi:a.eval i=v) (hj:a.eval j=u) (hb:BsF v.ownBlock x T u w) (hx:x.length=s) (h1:∀ c∈x,c.oneCell'=true) (hn:xs.length≤1000000) (hby:bytes≤1000)
  (hK:∀ v' w',EB W0 T s v xs x v' w'→Gr v.ownBlock w w'→K (a.put o.dst v') w'):o.wp P a w K Q:=by
 obtain⟨g,rfl,hne,hg⟩:=hb.out
 refine wp_app S i j ho (own_le h.own hle) hi hj (news:=x) (fun _=>⟨g,0,rfl,fun j u hu=>by rw[Nat.zero_add,Ae hg];simpa using hu⟩) (by rw[hx,Nat.one_mul]) h1 ?_ (by omega) (Nat.zero_le _) fun v' w' h2 h3 h4=>hK _ _ ⟨h2,(Gr.of_le hle).trans ⟨h3⟩,?_⟩ ⟨h3⟩
 ·have:=Nat.mul_le_mul (show xs.length+1≤1000001 by omega) hby
  omega
 ·rcases h4 with e | e
  ·exact .inl e
  ·exact .inr ⟨_,e,hle.size⟩
theorem Br {ops:Array Oper} {rest:List Oper} {o:Oper} {a:Act} {Q:Exit→Act→World→Prop} (hgd:o.guard=none) (S:SlT P t T z s bytes) (i j:Operand) (ho:o.op=.call { callee:=.builtin .append,args:=#[i,j],argTypes:=#[t,t] })
  (h:AA M W0 T s v xs) (hle:Le W0 w) (hi:a.eval i=v) (hj:a.eval j=u) (hb:BsF v.ownBlock x T u w) (hx:x.length=s) (h1:∀ c∈x,c.oneCell'=true) (hn:xs.length≤1000000) (hby:bytes≤1000)
  (hK:∀ v' w',EB W0 T s v xs x v' w'→Gr v.ownBlock w w'→wpList P ops Q rest (a.put o.dst v') w'):wpList P ops Q (o::rest) a w :=
 wpList_plain hgd fun _ hK'=>Gv S i j ho h hle hi hj hb hx h1 hn hby fun v' w' h2 h3=>hK' _ _ (hK v' w' h2 h3)
end
structure KT (T:TypeId) (w w':World):Prop where
 out:∀ (k:Nat) (cs:Array Value) (fr:Nat×Nat),w.heap[k]?=some (Obj.cells cs T fr)→w'.heap[k]?=some (Obj.cells cs T fr)
section
variable {T:TypeId} {w w' w'':World}
theorem KT.refl (T:TypeId) (w:World):KT T w w:=⟨fun _ _ _ h=>h⟩
theorem KT.trans (h:KT T w w') (h':KT T w' w''):KT T w w'':=⟨fun k cs fr hk=>h'.out k cs fr (h.out k cs fr hk)⟩
theorem KT.of_le (h:Le w w'):KT T w w':=⟨fun _ _ _ hk=>h.heap hk⟩
theorem KT.heap {k:Nat} {cs:Array Value} {fr:Nat×Nat} (h:KT T w w') (hk:w.heap[k]?=some (.cells cs T fr)):w'.heap[k]?=some (.cells cs T fr):=h.out k cs fr hk
theorem AA.kt {M:Nat→Prop} {s:Nat} {v:Value} {xs:List (List Value)} (h:AA M w T s v xs) (hk:KT T w w'):AA M w' T s v xs:=by
 refine⟨⟨h.own.1,?_⟩,h.blk,h.len⟩
 rcases h.own.2 with h1 | ⟨g,cap,cur,hv,hb,hg,r⟩
 ·exact .inl h1
 ·exact .inr ⟨g,cap,cur,hv,hb,hk.heap hg,r⟩
theorem AA.elem {M:Nat→Prop} {s j:Nat} {A:Option Addr} {n cap:Nat} {xs:List (List Value)} {x:List Value} (h:AA M w T s (.slice A n cap) xs) (hj:xs[j]?=some x):∃ g,A=some ⟨g,0,none⟩∧w.rangeAt g (j*s) x:=by
 have hx:=h.len x (List.mem_of_getElem? hj)
 rcases h.val with ⟨_,e⟩ | ⟨g,cap',cur,e,_,hg,hc,hm,hs,hr⟩
 ·subst e;simp at hj
 ·injection e with e1 e2 e3
  refine⟨g,e1,fun i u hi=>?_⟩
  have hi3:i<s:=by rw[← hx];exact (List.getElem?_eq_some_iff.1 hi).1
  rw[Ae hg,← Array.getElem?_toList,hr j x hj i hi3,hi]
end
def ixN (del:List Value→Bool) (xs:List (List Value)):Nat:=(xs.takeWhile fun x=>!del x).length
theorem Fj {del:List Value→Bool}:∀ {xs:List (List Value)} {i:Nat} {x:List Value},xs[i]?=some x→del x=true→(∀ (t:Nat) (y:List Value),t<i→xs[t]?=some y→del y=false)→ixN del xs=i
 | [],i,x,h,_,_=>by simp at h
 | a::xs,0,x,h,h1,_=>by
  simp only[List.getElem?_cons_zero,Option.some.injEq] at h
  subst h
  simp[ixN,h1]
 | a::xs,i+1,x,h,h1,h2=>by
  have ha:=h2 0 a (by omega) rfl
  have:=Fj (xs:=xs) (i:=i) (by simpa using h) h1 (fun t y ht hy=>h2 (t+1) y (by omega) (by simpa using hy))
  simp only[ixN] at this ⊢
  simp[ha,this]
theorem DX {del:List Value→Bool}:∀ {xs:List (List Value)},(∀ (t:Nat) (y:List Value),xs[t]?=some y→del y=false)→ixN del xs=xs.length
 | [],_=>rfl
 | a::xs,h=>by
  have ha:=h 0 a rfl
  have:=DX (xs:=xs) fun t y hy=>h (t+1) y (by simpa using hy)
  simp only[ixN] at this ⊢
  simp[ha,this]
theorem GO {del:List Value→Bool}:∀ {xs:List (List Value)},ixN del xs<xs.length→∃ x,xs[ixN del xs]?=some x∧del x=true
 | [],h=>by simp at h
 | a::xs,h=>by
  cases ha:del a
  ·have h2:ixN del (a::xs)=ixN del xs+1:=by simp[ixN,ha]
   rw[h2] at h ⊢
   obtain⟨x,h3,h4⟩:=GO (xs:=xs) (by simpa using h)
   exact⟨x,by simpa using h3,h4⟩
  ·have h2:ixN del (a::xs)=0:=by simp[ixN,ha]
   rw[h2]
   exact⟨a,rfl,ha⟩
theorem Ea (del:List Value→Bool):∀ (xs:List (List Value)),∀ u∈xs.take (ixN del xs),del u=false
 | [],u,hu=>by simp at hu
 | a::xs,u,hu=>by
  cases ha:del a
  ·have h2:ixN del (a::xs)=ixN del xs+1:=by simp[ixN,ha]
   rw[h2,List.take_succ_cons,List.mem_cons] at hu
   rcases hu with rfl | hu
   ·exact ha
   ·exact Ea del xs u hu
  ·have h2:ixN del (a::xs)=0:=by simp[ixN,ha]
   rw[h2] at hu
   simp at hu
theorem Gp {del:List Value→Bool} {xs:List (List Value)} (h:¬ ixN del xs<xs.length):xs.filter (fun x=>!del x)=xs:=by
 rw[List.filter_eq_self]
 intro u hu
 have:=Ea del xs u (by rw[List.take_of_length_le (by omega)];exact hu)
 simp[this]
theorem Bt {P:Program} {f:FuncId} {fn:Func} {c:Code} (hf:P.funcs[f]?=some fn) (hname:(fn.name=="runtime.NumGoroutine")=false) (hb:fn.body=some c):∀ args w,(callFunc f args).run P w=.ok (.enter f args) w:=by
 intro args w
 have h1:fn.name≠"runtime.NumGoroutine":=by simpa using hname
 simp[callFunc,hf,h1,hb,mark]
theorem ES {P:Program} {ops:Array Oper} {rest:List Oper} {o:Oper} {a:Act} {w:World} {Q:Exit→Act→World→Prop} (hwt:Region.wanted o (yielded ops a.tmps)=true) (ty:TypeId) (x:Operand) (ho:o.op=.load ty x) (g off:Nat) (hx:a.eval x=.pointer (some ⟨g,off,none⟩)) (cs:List Value) (d:TypeDesc) (hg:w.rangeAt g off cs)
  (hu:P.underlying ty=some d) (hd:d.isRow=true) (hi:(P.info? ty).map (·.size)=some cs.length) (h:wpList P ops Q rest (a.put o.dst (.agg cs.toArray)) w):wpList P ops Q (o::rest) a w :=
 wpList_step fun K hK=>by
  rw[if_pos hwt]
  exact wp_load_mid ty x ho g off hx cs d hg hu hd hi (hK _ _ h)
end Go.Proofs.YtmcndlofaanjiaaGreat
