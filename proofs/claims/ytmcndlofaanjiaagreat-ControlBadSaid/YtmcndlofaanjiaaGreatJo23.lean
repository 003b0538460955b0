/- Texts of one claim, laid together: BdR BdS Bd3 -/
import Derived.Test.YtmcndlofaanjiaaGreatJo22
import Derived.Test.YtmcndlofaanjiaaGreatJo09
/- cmd.Board: Room. -/
namespace Go.Proofs.YtmcndlofaanjiaaGreat
open Go.RowKit
set_option linter.unusedVariables false
set_option maxRecDepth 100000
set_option maxHeartbeats 8000000
section
open Go.RowKit Go.Shelf
attribute [local go_sem] Oper.semAt_some
theorem KeepsFrom.of_fp {S:Nat→Prop} {B:Nat} {W W':World} (h:Fp S W W') (hs:∀ k,S k→∃ cs T fr,W.heap[k]?=some (.cells cs T fr)):KeepsFrom B W W' :=
 ⟨h.size,fun k o _ hk ho=>(h.block k (Array.getElem?_eq_some_iff.1 hk).1 (fun e=>by
  obtain⟨cs,T,fr,h1⟩:=hs k e
  rw[h1] at hk
  injection hk with hk
  rw[← hk] at ho
  cases ho)).trans hk⟩
theorem KeepsFrom.of_le {B:Nat} {W W':World} (h:Le W W'):KeepsFrom B W W':=KeepsFrom.of_fp (S:=fun _=>False) (Fp.of_le h) (fun _ h=>h.elim)
theorem EJ {β:Type} {B:Nat} {w:World} (hB:w.heap.size≤B):OwnFrom B (fun (_:β) W=>Le w W):=fun _ W W' row h hg hr =>
 Le.mk (h.out.grown hg h.size (fun r e=>Nat.le_trans hB (hr r e).1))
theorem D4 {β:Type} {B k:Nat} {o:Obj} (hk:k<B):OwnFrom B (fun (_:β) W=>W.heap[k]?=some o):=fun _ W W' row h hg hr =>
 (hg.block k (Array.getElem?_eq_some_iff.1 h).1 (fun e=>by have:=(hr k e.symm).1;omega)).trans h
theorem Dm {β:Type} {B:Nat} (p:β→Prop):OwnFrom B (fun (s:β) (_:World)=>p s):=fun _ _ _ _ h _ _=>h
theorem A4 {α β:Type} {f:α→β}:∀ {l:List α},(l.map f).Nodup→∀ {a b:α},a∈l→b∈l→f a=f b→a=b
 | [],_,_,_,h,_,_=>by simp at h
 | x::l,hn,a,b,ha,hb,e=>by
  rw[List.map_cons,List.nodup_cons] at hn
  rcases List.mem_cons.1 ha with e1 | h1
  ·rcases List.mem_cons.1 hb with e2 | h2
   ·rw[e1,e2]
   ·exact (hn.1 (List.mem_map.2 ⟨b,h2,by rw[← e,e1]⟩)).elim
  ·rcases List.mem_cons.1 hb with e2 | h2
   ·exact (hn.1 (List.mem_map.2 ⟨a,h1,by rw[e,e2]⟩)).elim
   ·exact A4 hn.2 h1 h2 e
section
variable {M M':Nat→Prop} {w w':World} {b:Nat} {d:BdS}
theorem Bu.at (h:Bu M w b d) {Q:Nat} (hQ:Q∈d.qs.map (·.Q)):∃ q∈d.qs,q.Q=Q:=by
 obtain⟨q,h1,h2⟩:=List.mem_map.1 hQ
 exact⟨q,h1,h2⟩
theorem Bu.row (h:Bu M w b d):∃ A cap,d.row=.slice A (d.qs.map (·.Q)).length cap∧((d.qs.map (·.Q))≠[]→∃ g cur,A=some ⟨g,0,none⟩∧w.heap[g]?=some (.cells cur 275 (0,0))∧∀ j (hj:j<(d.qs.map (·.Q)).length),cur[j]?=some (.pointer (some ⟨(d.qs.map (·.Q))[j],0,none⟩))):=by
 obtain⟨A,cap,hv,hc,hn,_⟩:=h.hT.cells
 refine⟨A,cap,by rw[hv,List.length_map,List.length_map],fun hne=>?_⟩
 rcases h.hT.val with ⟨_,h1⟩ | ⟨g,cap',cur,hv',_,hg,hlen⟩
 ·exfalso
  have:=congrArg List.length h1
  have h1':=h.n1
  simp at this
  rw[this] at h1'
  simp at h1'
 ·rw[hv] at hv'
  injection hv' with e1 e2 e3
  refine⟨g,cur,e1,hg,fun j hj=>?_⟩
  have hj':j<d.qs.length:=by simpa using hj
  obtain⟨g9,c9,pre,post,e9,_,hpre,hg9⟩:=h.hT.cut (i:=j) (show (d.qs.map fun q=>pV q.Q)[j]?=some (pV d.qs[j].Q) by rw[List.getElem?_map,List.getElem?_eq_getElem hj'];rfl)
  rw[hv] at e9
  injection e9 with e9 _ _
  rw[e1] at e9
  injection e9 with e9
  injection e9 with e9 _ _
  subst e9
  rw[hg] at hg9
  injection hg9 with hg9
  injection hg9 with hg9 _ _
  rw[hg9,List.getElem?_toArray,List.getElem?_append_right (by omega),hpre]
  simp[pV]
theorem bdRoom (h:Bu M w b d):Calls Tryz.prog 117 #[.pointer (some ⟨b,0,none⟩)] w fun e w'=>e=.returned (.bool (d.qs.all fun q=>decide (q.l.length<d.R)))∧Le w w':=by
 obtain⟨A,cap,hrow,hcs⟩:=h.row
 have HB:=Aa h
 have hQl:(d.qs.map (·.Q)).length=d.qs.length:=List.length_map ..
 have hn4:=h.n4
 have hblt:=Ah h.hb
 have hr1:=h.R1
 have hr2:=h.R2
 obtain⟨R,hR⟩:∃ R:Ending→World→Prop,R=fun e w'=>e=.returned (.bool (d.qs.all fun q=>decide (q.l.length<d.R)))∧Le w w':=⟨_,rfl⟩
 rw[← hR]
 have HR:=Aa hR
 clear hR
 refine (callsIn_wide (n:=5)).1 ?_
 refine callsIn_of_wp_marks Tryz.func117 rfl trivial ?_ rfl
 simp only[Tryz.ntmps117,List.size_toArray,List.length_cons,List.length_nil,Nat.reduceAdd,Nat.reduceSub,Array.replicate_succ,Array.replicate_zero,List.push_toArray,List.append_toArray,List.nil_append,List.cons_append]
 gi_wp2_with (refine⟨trivial,?_⟩;gi_at_call 159;refine (callsIn_wide.2 (all_any _ b)).mono ?_;rintro e w' ⟨rfl,rfl⟩)
 have HL:=Aa (((Le.refl w).alloc (.cells #[.bool false] 4)).alloc (.cells #[.pointer (some ⟨b,0,none⟩)] 44))
 have HX0:=Aa (show ((w.alloc (.cells #[.bool false] 4)).alloc (.cells #[.pointer (some ⟨b,0,none⟩)] 44)).heap[w.heap.size]?=some (.cells #[.bool false] 4 (0,0)) from heap_alloc (heap_alloc_new w _))
 have HX1:=Aa (heap_alloc_new (w.alloc (.cells #[.bool false] 4)) (.cells #[.pointer (some ⟨b,0,none⟩)] 44))
 have hsz1:(w.alloc (.cells #[.bool false] 4)).heap.size=w.heap.size+1:=by show (w.heap.push _).size=_;rw[Array.size_push]
 have hsz2:((w.alloc (.cells #[.bool false] 4)).alloc (.cells #[.pointer (some ⟨b,0,none⟩)] 44)).heap.size=w.heap.size+2:=by show ((w.heap.push _).push _).size=_;rw[Array.size_push,Array.size_push]
 rw[hsz1] at HX1
 generalize (w.alloc (.cells #[.bool false] 4)).alloc (.cells #[.pointer (some ⟨b,0,none⟩)] 44)=w2 at *
 have HC2:=Aa (show (d.qs.map (·.Q))≠[]→∃ g cur,A=some ⟨g,0,none⟩∧w2.heap[g]?=some (.cells cur 275 (0,0))∧∀ j (hj:j<(d.qs.map (·.Q)).length),cur[j]?=some (.pointer (some ⟨(d.qs.map (·.Q))[j],0,none⟩)) from fun hne=>by obtain⟨g,cur,e1,e2,e3⟩:=hcs hne;exact⟨g,cur,e1,HL.out.heap e2,e3⟩)
 have hb2:w2.heap[b]?=some (.cells #[.slice A (d.qs.map (·.Q)).length cap,.pointer (some ⟨d.aq,0,none⟩),d.last] 274 (0,0)):=by rw[← hrow];exact HL.out.heap HB.out.hb
 have hrowlt:∀ k,(Value.slice A (d.qs.map (·.Q)).length cap).ownBlock=some k→k<w.heap.size:=fun k hk=>HB.out.hT.lt (by rw[hrow];exact hk)
 have HRL:=Aa hrowlt
 refine wpIn_rangeFunc_ownG rfl (by omega) (gf:=196) (lb:=#[.pointer (some ⟨w.heap.size+1,0,none⟩)]) rfl trivial (enters_of Tryz.func196 (by kernel_rfl) rfl)
  (FL 4 (by omega) (w.heap.size+1) b _ _ A cap (d.qs.map (·.Q)) w2 HX1.out hb2 HC2.out (by omega)) IB.trans
  (fun W l o o' hl _ _ _ k hk=>World.putObj_heap_other (fun e=>by
   subst e
   rcases hk with hk | hk | hk
   ·omega
   ·omega
   ·have:=HRL.out _ hk;omega)) (Below.refl _ _) (fun _=>rfl)
  (fun pre W=>(∀ x∈pre,∀ q∈d.qs,q.Q=x.1→q.l.length<d.R)∧Le w2 W∧W.heap[w.heap.size]?=some (.cells #[.bool false] 4 (0,0)))
  (fun c pre W=>(c=.ret∧∃ q∈d.qs,¬ q.l.length<d.R)∧Le w W∧W.heap[w.heap.size]?=some (.cells #[.bool false] 4 (0,0)))
  (OwnFrom.and (Dm _) (OwnFrom.and (EJ (Nat.le_refl _)) (D4 (by omega))))
  (fun c=>OwnFrom.and (Dm _) (OwnFrom.and (EJ (by omega)) (D4 (by omega))))
  ⟨by simp,Le.refl _,HX0.out⟩
  (fun x=>{ tmps:=#[.pointer (some ⟨b,0,none⟩),undef,.pointer (some ⟨w.heap.size,0,none⟩),.pointer (some ⟨x.1,0,none⟩),.pointer (some ⟨b,0,none⟩),.bool false,.pointer (some ⟨b,0,none⟩),.func (.func 196) #[] #[.pointer (some ⟨w.heap.size+1,0,none⟩)],.pointer (some ⟨x.1,0,none⟩),undef,undef,undef],defers:=[] }) ?assign ?body ?done ?stop
 case assign =>
  intro l x W K hK
  gi_wp2
  exact hK
 case body =>
  rintro l pre ⟨Q,hQm⟩ W ⟨hro,hle,hr⟩ hlen
  dsimp only
  obtain⟨q,hq,hqQ⟩:=HB.out.at hQm
  subst hqQ
  have HQ:=Aa ((HB.out.hQ q hq).le (HL.out.trans hle))
  have HRO:=Aa hro
  have HLE:=Aa hle
  have HR0:=Aa hr
  have HQM:=Aa hq
  have hqn:=HQ.out.nR
  have hws:=hle.size
  rw[List.length_map] at hqn
  have hal:=Aa (fun (W':World) (hl:Le W W')=>show IB (w.heap.size+1) b (.slice A (d.qs.map (·.Q)).length cap) W W' from fun k hk=>hl.out.block k (by
   rcases hk with hk | hk | hk
   ·omega
   ·omega
   ·have:=HRL.out _ hk;omega))
  clear hro hle hr hq
  by_cases hful:q.l.length<d.R
  ·have z1:((d.R:Int) - (q.l.length:Int)==0)=false:=by rw[beq_eq_false_iff_ne];omega
   have HFU:=Aa hful
   clear hful
   gi_wp2_with (refine⟨trivial,?_⟩;gi_at_call 160;refine (CallsIn.inRound l (callsIn_wide.2 (qtRoom HQ.out))).mono ?_;rintro e w' ⟨rfl,hb⟩)
   refine⟨KeepsFrom.of_le (Le.mk hb),hal.out _ (Le.mk hb),fun x hx q' hq' e=>?_,HLE.out.trans (Le.mk hb),(Le.mk hb).heap HR0.out⟩
   rcases List.mem_append.1 hx with hx | hx
   ·exact HRO.out x hx q' hq' e
   ·rw[List.mem_singleton] at hx
    subst hx
    have:q'=q:=A4 (f:=QS.Q) HB.out.dQ hq' HQM.out e
    rw[this]
    exact HFU.out
  ·have z1:((d.R:Int) - (q.l.length:Int)==0)=true:=by rw[beq_iff_eq];omega
   have HFU:=Aa hful
   clear hful
   gi_wp2_with (refine⟨trivial,?_⟩;gi_at_call 160;refine (CallsIn.inRound l (callsIn_wide.2 (qtRoom HQ.out))).mono ?_;rintro e w' ⟨rfl,hb⟩;have hr1:=(Le.mk hb).heap HR0.out;have hcr:=Ae hr1 0;have hfr:=Ay hr1 0)
   exact⟨(KeepsFrom.of_le (Le.mk hb)).trans ((KeepsOthers.setCell _ _ _).from _),⟨rfl,q,HQM.out,HFU.out⟩,Le.mk ((HL.out.trans (HLE.out.trans (Le.mk hb))).out.setCell (p:=⟨w.heap.size,0,none⟩) (Nat.le_refl _) _),by have:=AG (i:=0) (.bool false) hr1;simpa using this⟩
 case done =>
  rintro D xs W hD rfl ⟨hro,hle,hr⟩ hK
  have hcr:=Ae hr 0
  have hfr:=Ay hr 0
  gi_wp2
  have hK':=(KeepsOthers.setCell W ⟨w.heap.size,0,none⟩ (.bool true)).same D _ hK rfl
  refine⟨by simp,.inl ⟨_,_,rfl,run_takeDeferred hK',?_⟩⟩
  have hc5:=cell_kept (World.cell?_setCell_same' W ⟨w.heap.size,0,none⟩ (.bool true) (by rw[hcr];rfl)) (grownBy_putObj' _ D (.deferred none)) (fun r e=>by cases e;exact⟨_,hK',rfl⟩)
  refine⟨.bool true,by simp[results,Tryz.f117,go_sem,hc5],?_⟩
  rw[HR.out]
  refine⟨?_,Le.mk (((HL.out.trans hle).out.setCell (p:=⟨w.heap.size,0,none⟩) (Nat.le_refl _) _).trans (belowK_b (w:=w) (Nat.le_refl _) _ D _ _ (by omega) hK' rfl rfl))⟩
  have:(d.qs.all fun q=>decide (q.l.length<d.R))=true:=List.all_eq_true.2 fun q hq=>decide_eq_true (hro ⟨q.Q,List.mem_map.2 ⟨q,hq,rfl⟩⟩ (List.mem_attach _ _) q hq rfl)
  rw[this]
 case stop =>
  rintro D c pre W hD hpre ⟨⟨rfl,hno⟩,hle,hr⟩ hK
  have hcr:=Ae hr 0
  gi_wp2
  refine⟨by simp,.inl ⟨_,_,rfl,run_takeDeferred hK,?_⟩⟩
  have hc5:=cell_kept (show W.cell? ⟨w.heap.size,0,none⟩=some (.bool false) from hcr) (grownBy_putObj' _ D (.deferred none)) (fun r e=>by cases e;exact⟨_,hK,rfl⟩)
  refine⟨.bool false,by simp[results,Tryz.f117,go_sem,hc5],?_⟩
  rw[HR.out]
  refine⟨?_,Le.mk (hle.out.trans (belowK_b (w:=w) (Nat.le_refl _) _ D _ _ (by omega) hK rfl rfl))⟩
  obtain⟨q,hq,hn⟩:=hno
  have:(d.qs.all fun q=>decide (q.l.length<d.R))=false:=by
   rw[Bool.eq_false_iff]
   intro h
   exact hn (of_decide_eq_true (List.all_eq_true.1 h q hq))
  rw[this]
end
end
section
open Go.RowKit Go.Shelf
attribute [local go_sem] Oper.semAt_some
def Dz (R t:Nat):Nat→List Nat→List Nat
 | 0,l=>l
 | n+1,l=>if (Dz R t n l).length<R then Dz R t n l++[t] else Dz R t n l
def QS.put (q:QS) (l:List Nat):QS:=⟨q.Q,q.A,q.f,l⟩
def BdS.push (d:BdS) (t:Nat):BdS:={ d with qs:=d.qs.map fun q=>q.put (q.l++[t]) }
def qsB (d:BdS) (k:Nat):Prop:=∃ q∈d.qs,k=q.Q∨k=q.A
theorem Ij {β:Type} {S:Nat→Prop} {B:Nat} {w:World} (hB:w.heap.size≤B):OwnFrom B (fun (_:β) W=>Fp S w W):=fun _ W W' row h hg hr =>
 ⟨hg.os.trans h.os,hg.tape.trans h.tape,hg.output.trans h.output,Nat.le_trans h.size hg.size,fun k hk hs=>(hg.block k (Nat.lt_of_lt_of_le hk h.size) (fun e=>by have:=(hr k e.symm).1;omega)).trans (h.block k hk hs)⟩
section
variable {M M':Nat→Prop} {w w':World} {b:Nat} {d:BdS}
theorem qtAt_own {R:Nat} {q:QS} {W W':World} {row:Option Nat} (h:Iv W R q) (hg:W.grownBy W' row) (hr:∀ r,row=some r→∃ o:Obj,W.heap[r]?=some o∧o.isCells=false):Iv W' R q:=by
 obtain⟨cur,hA,hl,hc⟩:=h.hA
 have hno:∀ {k:Nat} {cs:Array Value} {T:TypeId} {fr:Nat×Nat},W.heap[k]?=some (.cells cs T fr)→W'.heap[k]?=some (.cells cs T fr):=fun {k cs T fr} hk =>
  (hg.block k (Ah hk) (fun e=>by
   obtain⟨o,h1,h2⟩:=hr k e.symm
   rw[hk] at h1
   injection h1 with h1
   rw[← h1] at h2
   cases h2)).trans hk
 exact⟨hno h.hQ,⟨cur,hno hA,hl,hc⟩,h.fR,h.nR,h.len,h.R1,h.ne⟩
theorem Bu.otherQ (hdQ:(d.qs.map (·.Q)).Nodup) (hdA:(d.qs.map (·.A)).Nodup) {q q':QS} (hq:q∈d.qs) (hq':q'∈d.qs) (hne:q'.Q≠q.Q) {R:Nat} {l l':List Nat} {W W':World} (h:Iv W R (q'.put l)) (h0:Iv W R (q.put l')) (hf:Fp (qS q.Q q.A) W W'):Iv W' R (q'.put l):=by
 obtain⟨cur,hA,_⟩:=h.hA
 obtain⟨cur0,hA0,_⟩:=h0.hA
 refine h.fp hf (fun e=>?_) (fun e=>?_)
 ·rcases e with e | e
  ·exact hne e
  ·exact AS h.hQ hA0 (by decide) e
 ·rcases e with e | e
  ·exact AS hA h0.hQ (by decide) e
  ·exact hne (by rw[A4 (f:=QS.A) hdA hq' hq e])
theorem Bu.notQ (h:∀ q∈d.qs,Iv w d.R q) {k:Nat} {cs:Array Value} {T:TypeId} {fr:Nat×Nat} (hk:w.heap[k]?=some (.cells cs T fr)) (h1:T≠359) (h2:T≠64):¬ qsB d k:=by
 rintro⟨q,hq,e | e⟩
 ·exact AS hk (h q hq).hQ h1 e
 ·obtain⟨cur,hA,_⟩:=(h q hq).hA
  exact AS hk hA h2 e
theorem AA.notQ {T s:Nat} {v:Value} {xs:List (List Value)} (ho:AA M' w T s v xs) (h:∀ q∈d.qs,Iv w d.R q) (h1:T≠359) (h2:T≠64) {k:Nat} (hk:v.ownBlock=some k):¬ qsB d k:=by
 rcases ho.val with ⟨rfl,_⟩ | ⟨g,cap,cur,rfl,_,hg,_⟩
 ·simp[Value.ownBlock] at hk
 ·simp only[Value.ownBlock,Option.some.injEq] at hk
  subst hk
  exact Bu.notQ h hg h1 h2
theorem Bu.pushed (h:Bu M w b d) (t:Nat) (hroom:∀ q∈d.qs,q.l.length<d.R) (hq:∀ q∈d.qs,Iv w' d.R (q.put (q.l++[t]))) (hf:Fp (qsB d) w w'):Bu M w' b (d.push t):=by
 have e1:(d.qs.map fun q=>q.put (q.l++[t])).map (·.Q)=d.qs.map (·.Q):=by rw[List.map_map];rfl
 have e2:(d.qs.map fun q=>q.put (q.l++[t])).map (·.A)=d.qs.map (·.A):=by rw[List.map_map];rfl
 have e3:(d.qs.map fun q=>q.put (q.l++[t])).map (fun q=>pV q.Q)=d.qs.map fun q=>pV q.Q:=by rw[List.map_map];rfl
 obtain⟨curK,hKA,_⟩:=h.hK.hA
 refine⟨hf.heap h.hb (Bu.notQ h.hQ h.hb (by decide) (by decide)),?_,fun q hq'=>?_,?_,?_,h.Mb,fun q hq'=>?_,h.Ma,?_,?_,?_,?_,h.R1,h.R2,?_,h.lt,fun x hx=>?_⟩
 ·show AA M w' _ 1 d.row ((d.qs.map fun q=>q.put (q.l++[t])).map fun q=>pV q.Q)
  rw[e3]
  exact⟨Bp h.hT.own hf (fun k hk=>h.hT.notQ h.hQ (by decide) (by decide) hk),h.hT.blk,h.hT.len⟩
 ·obtain⟨q0,h0,rfl⟩:=List.mem_map.1 hq'
  exact hq q0 h0
 ·show QAt _ _ 2 w' d.aq d.aA ((d.qs.map fun q=>q.put (q.l++[t])).length*d.R) d.aF (d.acks.map ackC)
  rw[List.length_map]
  exact h.hK.fp hf (Bu.notQ h.hQ h.hK.hQ (by decide) (by decide)) (Bu.notQ h.hQ hKA (by decide) (by decide))
 ·exact⟨Bp h.hL.own hf (fun k hk=>h.hL.notQ h.hQ (by decide) (by decide) hk),h.hL.blk,h.hL.len⟩
 ·obtain⟨q0,h0,rfl⟩:=List.mem_map.1 hq'
  exact h.Mq q0 h0
 ·show ((d.qs.map fun q=>q.put (q.l++[t])).map (·.Q)).Nodup
  rw[e1];exact h.dQ
 ·show ((d.qs.map fun q=>q.put (q.l++[t])).map (·.A)).Nodup
  rw[e2];exact h.dA
 ·show 1≤(d.qs.map fun q=>q.put (q.l++[t])).length
  rw[List.length_map];exact h.n1
 ·show (d.qs.map fun q=>q.put (q.l++[t])).length≤4
  rw[List.length_map];exact h.n4
 ·show d.lasts.length=(d.qs.map fun q=>q.put (q.l++[t])).length
  rw[List.length_map];exact h.lens
 ·show x.1<(d.qs.map fun q=>q.put (q.l++[t])).length∧_
  rw[List.length_map];exact h.lta x hx
theorem Bu.noCells (h:Bu M w b d) {D:Nat} {o:Obj} (ho:w.heap[D]?=some o) (hn:o.isCells=false) (hf:Fp (fun k=>k=D) w w'):Bu M w' b d:=by
 have hne:∀ {k:Nat} {cs:Array Value} {T:TypeId} {fr:Nat×Nat},w.heap[k]?=some (.cells cs T fr)→¬ k=D:=fun {k cs T fr} hk e=>by
  rw[e,ho] at hk
  injection hk with hk
  rw[hk] at hn
  cases hn
 have hnv:∀ {T s:Nat} {v:Value} {xs:List (List Value)},AA M w T s v xs→AA M w' T s v xs:=fun {T s v xs} hv=>⟨Bp hv.own hf (fun k hk=>by
  rcases hv.val with ⟨rfl,_⟩ | ⟨g,cap,cur,rfl,_,hg,_⟩
  ·simp[Value.ownBlock] at hk
  ·simp only[Value.ownBlock,Option.some.injEq] at hk
   subst hk
   exact hne hg),hv.blk,hv.len⟩
 obtain⟨curK,hKA,_⟩:=h.hK.hA
 exact⟨hf.heap h.hb (hne h.hb),hnv h.hT,fun q hq=>by
  obtain⟨cur,hA,_⟩:=(h.hQ q hq).hA
  exact (h.hQ q hq).fp hf (hne (h.hQ q hq).hQ) (hne hA),h.hK.fp hf (hne h.hK.hQ) (hne hKA),hnv h.hL,h.Mb,h.Mq,h.Ma,h.dQ,h.dA,h.n1,h.n4,h.R1,h.R2,h.lens,h.lt,h.lta⟩
theorem qsB_M (h:Bu M w b d) {k:Nat} (hk:qsB d k):M k:=by
 obtain⟨q,hq,rfl | rfl⟩:=hk
 ·exact (h.Mq q hq).1
 ·exact (h.Mq q hq).2
theorem bdSend (h:Bu M w b d) (t:Nat) (hroom:∀ q∈d.qs,q.l.length<d.R):Calls Tryz.prog 124 #[.pointer (some ⟨b,0,none⟩),.pointer (some ⟨t,0,none⟩)] w fun e w'=>e=.returned (.int .i64 0)∧Bu M w' b (d.push t)∧Fp M w w':=by
 obtain⟨A,cap,hrow,hcs⟩:=h.row
 have HB:=Aa h
 have HRM:=Aa hroom
 have hQl:(d.qs.map (·.Q)).length=d.qs.length:=List.length_map ..
 have hn4:=h.n4
 have hblt:=Ah h.hb
 have hr1:=h.R1
 have hr2:=h.R2
 have HROOM:=Aa (bdRoom (h.le ((Le.refl w).alloc (.cells #[.pointer (some ⟨t,0,none⟩)] 64))))
 have hall:(d.qs.all fun q=>decide (q.l.length<d.R))=true:=List.all_eq_true.2 fun q hq=>decide_eq_true (hroom q hq)
 rw[hall] at HROOM
 obtain⟨R,hR⟩:∃ R:Ending→World→Prop,R=fun e w'=>e=.returned (.int .i64 0)∧Bu M w' b (d.push t)∧Fp M w w':=⟨_,rfl⟩
 rw[← hR]
 have HR:=Aa hR
 clear hR h hroom hall
 refine (callsIn_wide (n:=5)).1 ?_
 refine callsIn_of_wp_marks Tryz.func124 rfl trivial ?_ rfl
 simp only[Tryz.ntmps124,List.size_toArray,List.length_cons,List.length_nil,Nat.reduceAdd,Nat.reduceSub,Array.replicate_succ,Array.replicate_zero,List.push_toArray,List.append_toArray,List.nil_append,List.cons_append]
 gi_wp2_with (first | (refine⟨trivial,?_⟩;gi_at_call 117;refine (callsIn_wide.2 HROOM.out).mono ?_;rintro e w3 ⟨rfl,hle⟩;have HL3:=Aa hle;clear hle) | (refine⟨trivial,?_⟩;gi_at_call 159;refine (callsIn_wide.2 (all_any _ b)).mono ?_;rintro e w' ⟨rfl,rfl⟩))
 have HL:=Aa ((((Le.refl w).alloc (.cells #[.pointer (some ⟨t,0,none⟩)] 64)).trans HL3.out).alloc (.cells #[.pointer (some ⟨b,0,none⟩)] 44))
 have HX0:=Aa (((Le.refl w3).alloc (.cells #[.pointer (some ⟨b,0,none⟩)] 44)).heap (HL3.out.heap (heap_alloc_new w (.cells #[.pointer (some ⟨t,0,none⟩)] 64))))
 have HX1:=Aa (heap_alloc_new w3 (.cells #[.pointer (some ⟨b,0,none⟩)] 44))
 have hsz1:(w.alloc (.cells #[.pointer (some ⟨t,0,none⟩)] 64)).heap.size=w.heap.size+1:=by show (w.heap.push _).size=_;rw[Array.size_push]
 have hsz2:(w3.alloc (.cells #[.pointer (some ⟨b,0,none⟩)] 44)).heap.size=w3.heap.size+1:=by show (w3.heap.push _).size=_;rw[Array.size_push]
 have hsz3:=HL3.out.size
 rw[hsz1] at hsz3
 generalize w3.alloc (.cells #[.pointer (some ⟨b,0,none⟩)] 44)=w4 at *
 have HC2:=Aa (show (d.qs.map (·.Q))≠[]→∃ g cur,A=some ⟨g,0,none⟩∧w4.heap[g]?=some (.cells cur 275 (0,0))∧∀ j (hj:j<(d.qs.map (·.Q)).length),cur[j]?=some (.pointer (some ⟨(d.qs.map (·.Q))[j],0,none⟩)) from fun hne=>by obtain⟨g,cur,e1,e2,e3⟩:=hcs hne;exact⟨g,cur,e1,HL.out.heap e2,e3⟩)
 have hb2:w4.heap[b]?=some (.cells #[.slice A (d.qs.map (·.Q)).length cap,.pointer (some ⟨d.aq,0,none⟩),d.last] 274 (0,0)):=by rw[← hrow];exact HL.out.heap HB.out.hb
 have hrowlt:∀ k,(Value.slice A (d.qs.map (·.Q)).length cap).ownBlock=some k→k<w.heap.size:=fun k hk=>HB.out.hT.lt (by rw[hrow];exact hk)
 have HRL:=Aa hrowlt
 have HB4:=Aa (HB.out.le HL.out)
 have HK4:=Aa (show ∀ k,k=w3.heap.size∨k=b∨(Value.slice A (d.qs.map (·.Q)).length cap).ownBlock=some k→¬ qsB d k from fun k hk=>by
  rcases hk with rfl | rfl | hk
  ·exact Bu.notQ HB4.out.hQ HX1.out (by decide) (by decide)
  ·exact Bu.notQ HB4.out.hQ hb2 (by decide) (by decide)
  ·exact HB4.out.hT.notQ HB4.out.hQ (by decide) (by decide) (by rw[hrow];exact hk))
 have HT4:=Aa (show ¬ qsB d w.heap.size from fun ⟨q,hq,e⟩=>by
  obtain⟨cur,hA,_⟩:=(HB.out.hQ q hq).hA
  have:=Ah hA
  have:=Ah (HB.out.hQ q hq).hQ
  rcases e with e | e<;>omega)
 refine wpIn_rangeFunc_ownG rfl (by omega) (gf:=196) (lb:=#[.pointer (some ⟨w3.heap.size,0,none⟩)]) rfl trivial (enters_of Tryz.func196 (by kernel_rfl) rfl)
  (FL 4 (by omega) w3.heap.size b _ _ A cap (d.qs.map (·.Q)) w4 HX1.out hb2 HC2.out (by omega)) IB.trans
  (fun W l o o' hl _ _ _ k hk=>World.putObj_heap_other (fun e=>by
   subst e
   rcases hk with hk | hk | hk
   ·omega
   ·omega
   ·have:=HRL.out _ hk;omega)) (Below.refl _ _) (fun _=>rfl)
  (fun pre W=>(∀ q∈d.qs,Iv W d.R (q.put (Dz d.R t ((pre.map (·.1)).count q.Q) q.l)))∧Fp (qsB d) w4 W)
  (fun _ _ _=>False)
  (OwnFrom.and (fun pre W W' row h hg hr q hq=>qtAt_own (h q hq) hg (fun r e=>(hr r e).2)) (Ij (Nat.le_refl _)))
  (fun _ _ _ _ _ h _ _=>h)
  ⟨fun q hq=>HB4.out.hQ q hq,Fp.refl _ _⟩
  (fun x=>{ tmps:=#[.pointer (some ⟨b,0,none⟩),.pointer (some ⟨t,0,none⟩),undef,.pointer (some ⟨w.heap.size,0,none⟩),.int .i64 0,.pointer (some ⟨x.1,0,none⟩),.bool false,.pointer (some ⟨b,0,none⟩),.bool false,.bool false,.pointer (some ⟨t,0,none⟩),.bool false,.bool false,.bool false,.pointer (some ⟨b,0,none⟩),.bool true,.bool false,.pointer (some ⟨b,0,none⟩),.func (.func 196) #[] #[.pointer (some ⟨w3.heap.size,0,none⟩)],.pointer (some ⟨x.1,0,none⟩),undef,undef,undef],defers:=[] }) ?assign ?body ?done ?stop
 case assign =>
  intro l x W K hK
  gi_wp2
  exact hK
 case body =>
  rintro l pre ⟨Q,hQm⟩ W ⟨hqs,hfp⟩ hlen
  dsimp only
  obtain⟨q,hq,hqQ⟩:=HB.out.at hQm
  subst hqQ
  have HQ:=Aa (hqs q hq)
  have HQS:=Aa hqs
  have HFP:=Aa hfp
  have HQM:=Aa hq
  have yt:W.cell? ⟨w.heap.size,0,none⟩=some (.pointer (some ⟨t,0,none⟩)):=Ae (hfp.heap HX0.out HT4.out) 0
  have hws:=hfp.size
  clear hqs hfp hq
  gi_wp2_with (refine⟨trivial,?_⟩;gi_at_call 178;refine (CallsIn.inRound l (callsIn_wide.2 (qtPush HQ.out (some ⟨t,0,none⟩)))).mono ?_;rintro e w' ⟨rfl,hq2,hf2⟩)
  have hsub:∀ k,qS q.Q q.A k→qsB d k:=fun k hk=>⟨q,HQM.out,hk⟩
  refine⟨KeepsFrom.of_fp hf2 (fun k hk=>?_),fun k hk=>?_,fun q' hq'=>?_,HFP.out.trans (hf2.mono hsub)⟩
  ·rcases hk with rfl | rfl
   ·exact⟨_,_,_,HQ.out.hQ⟩
   ·obtain⟨cur,hA,_⟩:=HQ.out.hA
    exact⟨_,_,_,hA⟩
  ·refine hf2.block k ?_ (fun e=>HK4.out k hk (hsub k e))
   rcases hk with rfl | rfl | hk
   ·omega
   ·omega
   ·have:=HRL.out _ hk;omega
  ·rw[List.map_append,List.count_append]
   by_cases hne:q'.Q=q.Q
   ·have e9:q'=q:=A4 (f:=QS.Q) HB.out.dQ hq' HQM.out hne
    subst e9
    have e8:(([⟨q'.Q,hQm⟩]:List { x:Nat // x∈d.qs.map (·.Q) }).map (·.1)).count q'.Q=1:=by simp
    rw[e8]
    have e7:((Dz d.R t ((pre.map (·.1)).count q'.Q+1) q'.l)).map pV=if ((Dz d.R t ((pre.map (·.1)).count q'.Q) q'.l).map pV).length<d.R then (Dz d.R t ((pre.map (·.1)).count q'.Q) q'.l).map pV++[[.pointer (some ⟨t,0,none⟩)]] else (Dz d.R t ((pre.map (·.1)).count q'.Q) q'.l).map pV:=by
     rw[Dz,List.length_map]
     split
     ·rw[List.map_append];rfl
     ·rfl
    show QAt _ _ 1 w' q'.Q q'.A d.R q'.f ((Dz d.R t ((pre.map (·.1)).count q'.Q+1) q'.l).map pV)
    rw[e7]
    exact hq2
   ·have e8:(([⟨q.Q,hQm⟩]:List { x:Nat // x∈d.qs.map (·.Q) }).map (·.1)).count q'.Q=0:=by
     simp only[List.map_cons,List.map_nil,List.count_cons,List.count_nil,Nat.zero_add,ite_eq_right_iff,Nat.one_ne_zero,imp_false,beq_iff_eq]
     exact fun e=>hne e.symm
    rw[e8,Nat.add_zero]
    exact Bu.otherQ HB.out.dQ HB.out.dA HQM.out hq' hne (HQS.out q' hq') HQ.out hf2
 case done =>
  rintro D xs W hD rfl ⟨hqs,hfp⟩ hK
  gi_wp2
  refine⟨by simp,.inl ⟨_,_,rfl,run_takeDeferred hK,?_⟩⟩
  refine⟨.int .i64 0,by simp[results,Tryz.f124,go_sem],?_⟩
  rw[HR.out]
  have hcount:∀ q∈d.qs,Dz d.R t (((d.qs.map (·.Q)).attach.map (·.1)).count q.Q) q.l=q.l++[t]:=fun q hq=>by
   rw[List.attach_map_subtype_val,List.Nodup.count HB.out.dQ,if_pos (List.mem_map.2 ⟨q,hq,rfl⟩),Dz,Dz,if_pos (HRM.out q hq)]
  have hb5:=HB4.out.pushed t HRM.out (fun q hq=>by have:=hqs q hq;rwa [hcount q hq] at this) hfp
  have hputD:Fp (fun k=>k=D) W (W.putObj D (.deferred none)):=Fp.of_grown (grownBy_putObj' _ D (.deferred none)) rfl
  refine⟨rfl,hb5.noCells hK rfl hputD,?_⟩
  have h9:Fp M w W:=(Fp.of_le HL.out).trans (hfp.mono fun k hk=>qsB_M HB.out hk)
  exact Fp.fresh h9 (grownBy_putObj' _ D (.deferred none)) (by have:=HL.out.size;omega)
 case stop =>
  rintro D c pre W hD hpre h hK
  exact h.elim
end
end
def BdS.setQ (d:BdS) (k:Nat) (q:QS):BdS:={ d with qs:=d.qs.set k q }
def BdS.setA (d:BdS) (f:Nat) (l:List (Nat×Nat)):BdS:={ d with aF:=f,acks:=l }
section
variable {M M':Nat→Prop} {w w':World} {b:Nat} {d:BdS}
theorem BM {α β:Type} (f:α→β) {l:List α} {k:Nat} {x y:α} (hk:l[k]?=some x) (e:f y=f x):(l.set k y).map f=l.map f:=by
 rw[List.map_set,e]
 refine List.ext_getElem? fun j=>?_
 rw[List.getElem?_set]
 split
 ·next e2 =>
  subst e2
  split
  ·rw[List.getElem?_map,hk];rfl
  ·next h =>
   rw[List.length_map] at h
   rw[List.getElem?_eq_none (by rw[List.length_map];omega)]
 ·rfl
theorem Bu.setQ (h:Bu M w b d) {k:Nat} {q:QS} (hk:d.qs[k]?=some q) (f:Nat) (l:List Nat) (hq:Iv w' d.R ⟨q.Q,q.A,f,l⟩) (hf:Fp (qS q.Q q.A) w w'):Bu M w' b (d.setQ k ⟨q.Q,q.A,f,l⟩):=by
 have hqm:=List.mem_of_getElem? hk
 have e1:(d.qs.set k ⟨q.Q,q.A,f,l⟩).map (·.Q)=d.qs.map (·.Q):=BM (y:=⟨q.Q,q.A,f,l⟩) (·.Q) hk rfl
 have e2:(d.qs.set k ⟨q.Q,q.A,f,l⟩).map (·.A)=d.qs.map (·.A):=BM (y:=⟨q.Q,q.A,f,l⟩) (·.A) hk rfl
 have e3:(d.qs.set k ⟨q.Q,q.A,f,l⟩).map (fun q=>pV q.Q)=d.qs.map fun q=>pV q.Q:=BM (y:=⟨q.Q,q.A,f,l⟩) (fun q:QS=>pV q.Q) hk rfl
 have e4:(d.qs.set k ⟨q.Q,q.A,f,l⟩).length=d.qs.length:=List.length_set ..
 have hsub:∀ k,qS q.Q q.A k→qsB d k:=fun k hk=>⟨q,hqm,hk⟩
 obtain⟨curK,hKA,_⟩:=h.hK.hA
 refine⟨hf.heap h.hb (fun e=>Bu.notQ h.hQ h.hb (by decide) (by decide) (hsub _ e)),?_,fun q' hq'=>?_,?_,?_,h.Mb,fun q' hq'=>?_,h.Ma,?_,?_,?_,?_,h.R1,h.R2,?_,h.lt,fun x hx=>?_⟩
 ·show AA M w' _ 1 d.row ((d.qs.set k ⟨q.Q,q.A,f,l⟩).map fun q=>pV q.Q)
  rw[e3]
  exact⟨Bp h.hT.own hf (fun k hk e=>h.hT.notQ h.hQ (by decide) (by decide) hk (hsub _ e)),h.hT.blk,h.hT.len⟩
 ·obtain⟨j,hj⟩:=List.mem_iff_getElem?.1 hq'
  have hj':(d.qs.set k ⟨q.Q,q.A,f,l⟩)[j]?=some q':=hj
  rw[List.getElem?_set] at hj'
  split at hj'
  ·split at hj'
   ·injection hj' with hj';rw[← hj'];exact hq
   ·cases hj'
  ·next hne =>
   have hm:=List.mem_of_getElem? hj'
   have hneQ:q'.Q≠q.Q:=fun e=>by
    obtain⟨hk1,hk2⟩:=List.getElem?_eq_some_iff.1 hk
    obtain⟨hj1,hj2⟩:=List.getElem?_eq_some_iff.1 hj'
    have hp:=List.pairwise_iff_getElem.1 h.dQ
    rcases Nat.lt_or_gt_of_ne hne with hlt | hgt
    ·exact hp k j (by simpa using hk1) (by simpa using hj1) hlt (by simp[hk2,hj2,e])
    ·exact hp j k (by simpa using hj1) (by simpa using hk1) hgt (by simp[hk2,hj2,e])
   exact Bu.otherQ h.dQ h.dA hqm hm hneQ (l:=q'.l) (l':=q.l) (h.hQ q' hm) (h.hQ q hqm) hf
 ·show QAt _ _ 2 w' d.aq d.aA ((d.qs.set k ⟨q.Q,q.A,f,l⟩).length*d.R) d.aF (d.acks.map ackC)
  rw[e4]
  exact h.hK.fp hf (fun e=>Bu.notQ h.hQ h.hK.hQ (by decide) (by decide) (hsub _ e)) (fun e=>Bu.notQ h.hQ hKA (by decide) (by decide) (hsub _ e))
 ·exact⟨Bp h.hL.own hf (fun k hk e=>h.hL.notQ h.hQ (by decide) (by decide) hk (hsub _ e)),h.hL.blk,h.hL.len⟩
 ·rcases List.mem_or_eq_of_mem_set (show q'∈d.qs.set k ⟨q.Q,q.A,f,l⟩ from hq') with hm | rfl
  ·exact h.Mq q' hm
  ·exact h.Mq q hqm
 ·show ((d.qs.set k ⟨q.Q,q.A,f,l⟩).map (·.Q)).Nodup
  rw[e1];exact h.dQ
 ·show ((d.qs.set k ⟨q.Q,q.A,f,l⟩).map (·.A)).Nodup
  rw[e2];exact h.dA
 ·show 1≤(d.qs.set k ⟨q.Q,q.A,f,l⟩).length
  rw[e4];exact h.n1
 ·show (d.qs.set k ⟨q.Q,q.A,f,l⟩).length≤4
  rw[e4];exact h.n4
 ·show d.lasts.length=(d.qs.set k ⟨q.Q,q.A,f,l⟩).length
  rw[e4];exact h.lens
 ·show x.1<(d.qs.set k ⟨q.Q,q.A,f,l⟩).length∧_
  rw[e4];exact h.lta x hx
theorem Bu.notK (h:Bu M w b d) {k:Nat} {cs:Array Value} {T:TypeId} {fr:Nat×Nat} (hk:w.heap[k]?=some (.cells cs T fr)) (h1:T≠356) (h2:T≠271):¬ qS d.aq d.aA k:=by
 rintro (e | e)
 ·exact AS hk h.hK.hQ h1 e
 ·obtain⟨cur,hA,_⟩:=h.hK.hA
  exact AS hk hA h2 e
theorem Bu.notKR (h:Bu M w b d) {T s:Nat} {v:Value} {xs:List (List Value)} (ho:AA M' w T s v xs) (h1:T≠356) (h2:T≠271) {k:Nat} (hk:v.ownBlock=some k):¬ qS d.aq d.aA k:=by
 rcases ho.val with ⟨rfl,_⟩ | ⟨g,cap,cur,rfl,_,hg,_⟩
 ·simp[Value.ownBlock] at hk
 ·simp only[Value.ownBlock,Option.some.injEq] at hk
  subst hk
  exact h.notK hg h1 h2
theorem Bu.setA (h:Bu M w b d) (f:Nat) (l:List (Nat×Nat)) (hq:QAt 356 271 2 w' d.aq d.aA (d.qs.length*d.R) f (l.map ackC)) (hl:∀ x∈l,x.1<d.qs.length∧x.2<18446744073709551616) (hf:Fp (qS d.aq d.aA) w w'):Bu M w' b (d.setA f l) :=
 ⟨hf.heap h.hb (h.notK h.hb (by decide) (by decide)),⟨Bp h.hT.own hf (fun k hk=>h.notKR h.hT (by decide) (by decide) hk),h.hT.blk,h.hT.len⟩,fun q hq=>by
  obtain⟨cur,hA,_⟩:=(h.hQ q hq).hA
  exact (h.hQ q hq).fp hf (h.notK (h.hQ q hq).hQ (by decide) (by decide)) (h.notK hA (by decide) (by decide)),hq,⟨Bp h.hL.own hf (fun k hk=>h.notKR h.hL (by decide) (by decide) hk),h.hL.blk,h.hL.len⟩,h.Mb,h.Mq,h.Ma,h.dQ,h.dA,h.n1,h.n4,h.R1,h.R2,h.lens,h.lt,hl⟩
theorem bdHas (h:Bu M w b d) (k:Nat) (hk:k<d.qs.length):Calls Tryz.prog 128 #[.pointer (some ⟨b,0,none⟩),.int .i64 k] w (Ax w (.bool true)):=by
 obtain⟨A,cap,hrow,_⟩:=h.row
 rw[List.length_map] at hrow
 have y0:w.cell? ⟨b,0,none⟩=some (.slice A d.qs.length cap):=by rw[← hrow];exact Ae h.hb 0
 have hkI:(k:Int)<(d.qs.length:Int):=by omega
 clear h
 go_enter Tryz.func128,Tryz.ntmps128
 go_wp2_with fail
 go_ret
 exact⟨by simp,(Le.refl w).out⟩
theorem bdAcks (h:Bu M w b d):Calls Tryz.prog 62 #[.pointer (some ⟨b,0,none⟩)] w (Ax w (.int .i64 d.acks.length)):=by
 have y1:w.cell? ⟨b,1,none⟩=some (.pointer (some ⟨d.aq,0,none⟩)):=Ae h.hb 1
 have HK:=Aa (qaLen h.hK)
 clear h
 rw[List.length_map] at HK
 go_enter Tryz.func62,Tryz.ntmps62
 go_wp2_with fail
 refine HK.out.mono ?_
 rintro e w2 ⟨rfl,hb⟩
 go_wp2_with fail
 go_ret
 exact⟨rfl,hb⟩
structure BdTakeP (M:Nat→Prop) (w:World) (b:Nat) (d:BdS) (k:Nat) (q:QS) (e:Ending) (w':World):Prop where
 emp:q.l=[]→e=.returned (.tuple #[.pointer none,.bool false])∧Le w w'
 one:∀ t l,q.l=t::l→e=.returned (.tuple #[.pointer (some ⟨t,0,none⟩),.bool true])∧Bu M w' b (d.setQ k ⟨q.Q,q.A,(q.f+1)%d.R,l⟩)∧Fp M w w'
theorem bdTake (h:Bu M w b d) (k:Nat) {q:QS} (hk:d.qs[k]?=some q):Calls Tryz.prog 63 #[.pointer (some ⟨b,0,none⟩),.int .i64 k] w (BdTakeP M w b d k q):=by
 have hkl:=(List.getElem?_eq_some_iff.1 hk).1
 obtain⟨g,cap,pre,post,hrow,_,hpre,hg⟩:=h.hT.cut (i:=k) (show (d.qs.map fun q=>pV q.Q)[k]?=some (pV q.Q) by rw[List.getElem?_map,hk];rfl)
 rw[List.length_map] at hrow
 have HH:=Aa (bdHas h k hkl)
 have H0:=Aa h
 have HK:=Aa hk
 have y0:w.cell? ⟨b,0,none⟩=some (.slice (some ⟨g,0,none⟩) d.qs.length cap):=by rw[← hrow];exact Ae h.hb 0
 have yg:w.cell? ⟨g,k,none⟩=some (.pointer (some ⟨q.Q,0,none⟩)):=by
  rw[Ae hg,List.getElem?_toArray,List.getElem?_append_right (by omega),hpre]
  simp[pV]
 have hkI:(k:Int)<(d.qs.length:Int):=by omega
 obtain⟨R,hR⟩:∃ R,R=BdTakeP M w b d k q:=⟨_,rfl⟩
 rw[← hR]
 have HR:=Aa hR
 have hqq:=h.hQ q (List.mem_of_getElem? hk)
 have HQ:=Aa hqq
 clear hR h hk hg hpre hrow hqq
 go_enter Tryz.func63,Tryz.ntmps63
 go_wp2_with fail
 refine HH.out.mono ?_
 rintro e w2 ⟨rfl,hb⟩
 have HL:=Aa (Le.mk hb)
 have z0:=(Le.mk hb).cell y0
 have zg:=(Le.mk hb).cell yg
 have HQ2:=Aa (HQ.out.le (Le.mk hb))
 clear hb y0 yg HH
 cases hl:q.l with
 | nil =>
  have HP:=HQ2.out
  rw[hl] at HP
  have HPP:=Aa HP
  clear HP
  go_wp2_with fail
  refine (qtPop0 HPP.out).mono ?_
  rintro e w3 ⟨rfl,hb⟩
  have HL3:=Aa (HL.out.trans (Le.mk hb))
  clear hb
  go_wp2_with fail
  rw[HR.out]
  exact⟨fun _=>⟨rfl,HL3.out⟩,fun t l e=>(by rw[hl] at e;cases e)⟩
 | cons t l =>
  have HP:=HQ2.out
  rw[hl] at HP
  have HPP:=Aa (show QAt _ _ 1 w2 q.Q q.A d.R q.f ([.pointer (some ⟨t,0,none⟩)]::l.map pV) from HP)
  clear HP
  go_wp2_with fail
  refine (qtPop1 _ HPP.out (by simp[Value.oneCell'])).mono ?_
  rintro e w3 ⟨rfl,hq3,hf3⟩
  have HQ3:=Aa hq3
  have HF3:=Aa hf3
  clear hq3 hf3
  go_wp2_with fail
  rw[HR.out]
  refine⟨fun e=>(by rw[hl] at e;cases e),fun t' l' e=>?_⟩
  rw[hl] at e
  injection e with e1 e2
  subst e1 e2
  exact⟨rfl,(H0.out.le HL.out).setQ HK.out _ _ HQ3.out HF3.out,(Fp.of_le HL.out).trans (HF3.out.mono fun k hk=>qsB_M H0.out ⟨q,List.mem_of_getElem? HK.out,hk⟩)⟩
theorem bdAck (h:Bu M w b d) (k ep:Nat) (hk:k<d.qs.length) (hep:ep<18446744073709551616) (hr:d.acks.length<d.qs.length*d.R):Calls Tryz.prog 65 #[.pointer (some ⟨b,0,none⟩),.int .i64 k,.int .u64 ep] w fun e w'=>e=.returned (.int .i64 0)∧Bu M w' b (d.setA d.aF (d.acks++[(k,ep)]))∧Fp M w w':=by
 have HH:=Aa (bdHas h k hk)
 have H0:=Aa h
 have HRM:=Aa hr
 have y1:w.cell? ⟨b,1,none⟩=some (.pointer (some ⟨d.aq,0,none⟩)):=Ae h.hb 1
 obtain⟨R,hR⟩:∃ R:Ending→World→Prop,R=fun e w'=>e=.returned (.int .i64 0)∧Bu M w' b (d.setA d.aF (d.acks++[(k,ep)]))∧Fp M w w':=⟨_,rfl⟩
 rw[← hR]
 have HR:=Aa hR
 have HQ:=Aa h.hK
 clear hR h hr
 go_enter Tryz.func65,Tryz.ntmps65
 go_wp2_with fail
 refine HH.out.mono ?_
 rintro e w2 ⟨rfl,hb⟩
 have HL:=Aa (Le.mk hb)
 have z1:=(Le.mk hb).cell y1
 have HQ2:=Aa (HQ.out.le (Le.mk hb))
 clear hb y1 HH
 go_wp2_with fail
 refine (qaPush HQ2.out k ep).mono ?_
 rintro e w3 ⟨rfl,hq3,hf3⟩
 rw[List.length_map,if_pos HRM.out] at hq3
 rw[List.length_map,decide_eq_true HRM.out]
 have HQ3:=Aa hq3
 have HF3:=Aa hf3
 clear hq3 hf3
 go_wp2_with fail
 rw[HR.out]
 refine⟨rfl,(H0.out.le HL.out).setA _ _ ?_ ?_ HF3.out,(Fp.of_le HL.out).trans (HF3.out.mono fun k hk=>by rcases hk with rfl | rfl;exact H0.out.Ma.1;exact H0.out.Ma.2)⟩
 ·rw[List.map_append];exact HQ3.out
 ·intro x hx
  rcases List.mem_append.1 hx with hx | hx
  ·exact H0.out.lta x hx
  ·rw[List.mem_singleton] at hx;subst hx;exact⟨hk,hep⟩
end
end Go.Proofs.YtmcndlofaanjiaaGreat
