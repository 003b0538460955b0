/- Texts of one claim, laid together: QueT News InsT -/
import Derived.Test.YtmcndlofaanjiaaGreatJo06
import Derived.Test.YtmcndlofaanjiaaGreatJo03
import Derived.Test.YtmcndlofaanjiaaGreatJo07
import Derived.Test.YtmcndlofaanjiaaGreatJo17
import Derived.Test.YtmcndlofaanjiaaGreatJo18
import Derived.Test.YtmcndlofaanjiaaGreatJo19
import Derived.Test.YtmcndlofaanjiaaGreatJo12
import Derived.Test.YtmcndlofaanjiaaGreatJo15
/- queue of *louver/table.Table: its functions. (Written by gen_queue.py.) -/
namespace Go.Proofs.YtmcndlofaanjiaaGreat
open Go.RowKit
set_option linter.unusedVariables false
set_option maxRecDepth 100000
set_option maxHeartbeats 8000000
section
variable {w:World} {Q A R f:Nat} {vs:List (List Value)}
theorem qtRoom (h:QAt 359 64 1 w Q A R f vs):Calls Tryz.prog 160 #[.pointer (some ⟨Q,0,none⟩)] w (Ax w (.int .i64 ((R:Int) - vs.length))):=by
 have c0:=h.c0
 have c2:=h.c2
 have q1:IntKind.i64.wrap ((R:Int) - vs.length)=(R:Int) - vs.length:=IntWalk.i64_in _ (by have:=h.nR;have:=h.R1;omega)
 clear h
 go_enter Tryz.func160,Tryz.ntmps160
 go_wp2_with fail
 go_quiet (fail)
 go_wp2_with fail
 go_ret
 exact⟨rfl,((Le.refl w).drewN _).out⟩
theorem qtLen (h:QAt 359 64 1 w Q A R f vs):Calls Tryz.prog 221 #[.pointer (some ⟨Q,0,none⟩)] w (Ax w (.int .i64 vs.length)):=by
 have c2:=h.c2
 clear h
 go_enter Tryz.func221,Tryz.ntmps221
 go_wp2_with fail
 go_ret
 exact⟨rfl,(Le.refl w).out⟩
theorem GJ {x:Value} (hQ:w.heap[Q]?=some (.cells #[.slice (some ⟨A,0,none⟩) R R,.int .i64 f,x] 359 (0,0))) (hf:f<R) (hR:R≤4096) (i:Nat) (hi:i≤R):Calls Tryz.prog 180 #[.pointer (some ⟨Q,0,none⟩),.int .i64 i] w (Ax w (.int .i64 ((f+i)%R:Nat))):=by
 have c0:w.cell? ⟨Q,0,none⟩=some (.slice (some ⟨A,0,none⟩) R R):=Ae hQ 0
 have c1:w.cell? ⟨Q,1,none⟩=some (.int .i64 f):=Ae hQ 1
 obtain⟨r,hr⟩:∃ r,r=(f+i)%R:=⟨_,rfl⟩
 rw[← hr]
 have hlt:r<R:=by rw[hr];exact Nat.mod_lt _ (by omega)
 have q1:IntKind.i64.wrap ((f:Int)+i)=((f+i:Nat):Int):=by rw[IntWalk.i64_in _ (by omega)];simp
 have q2:((f+i:Nat):Int).tmod (R:Int)=(r:Int):=by rw[hr,Int.tmod_eq_emod_of_nonneg (by omega)];simp
 have q3:IntKind.i64.wrap (r:Int)=(r:Int):=IntWalk.i64_in _ (by omega)
 have q4:((R:Int)==0)=false:=by rw[beq_eq_false_iff_ne];omega
 have q5:¬ (R:Int)=0:=by omega
 clear hQ hr
 generalize f+i=fi at *
 go_enter Tryz.func180,Tryz.ntmps180
 go_wp2_with fail
 go_quiet (fail)
 go_wp2_with fail
 go_ret
 exact⟨rfl,((Le.refl w).drewN _).out⟩
theorem qtPlace (h:QAt 359 64 1 w Q A R f vs) (i:Nat) (hi:i≤R):Calls Tryz.prog 180 #[.pointer (some ⟨Q,0,none⟩),.int .i64 i] w (Ax w (.int .i64 ((f+i)%R:Nat))):=GJ h.hQ h.fR h.R1 i hi
end
def qtPushP (w:World) (Q A R f:Nat) (vs:List (List Value)) (v:List Value) (e:Ending) (w':World):Prop :=
 e=.returned (.bool (decide (vs.length<R)))∧QAt 359 64 1 w' Q A R f (if vs.length<R then vs++[v] else vs)∧Fp (qS Q A) w w'
theorem qtPush {w:World} {Q A R f:Nat} {vs:List (List Value)} (h:QAt 359 64 1 w Q A R f vs) (p1:Option Addr) :
  Calls Tryz.prog 178 #[.pointer (some ⟨Q,0,none⟩),.pointer p1] w (qtPushP w Q A R f vs [.pointer p1]):=by
 have HQ0:=Aa h
 have hR1:=h.R1
 have hnR:=h.nR
 have hfR:=h.fR
 clear h
 have LE:=Aa (Le.refl w)
 go_enter Tryz.func178,Tryz.ntmps178
 go_wp2_with fail
 refine (qtRoom (HQ0.out.le LE.out)).mono ?_
 rintro e w2 ⟨rfl,hb⟩
 have LE2:=Aa (LE.out.trans ⟨hb⟩)
 have HQ2:=Aa (HQ0.out.le LE2.out)
 clear hb LE
 by_cases hlt:vs.length<R
 ·have hz:((R:Int) - vs.length==0)=false:=by rw[beq_eq_false_iff_ne];omega
  obtain⟨p,hp⟩:∃ p,p=(f+vs.length)%R:=⟨_,rfl⟩
  have hpR:p<R:=by rw[hp];exact Nat.mod_lt _ (by omega)
  have hpI:(p:Int)<(R:Int):=by omega
  have hp0:(0:Int)≤(p:Int):=by omega
  have HPL:=Aa (fun W (hW:Le w2 W)=>qtPlace (HQ2.out.le hW) vs.length hnR)
  rw[← hp] at HPL
  have HP:=Aa hp
  clear hp
  go_upto_region 3 with fail
  refine' Aj 12 12 8 Le (Is _::Is _::Is _::Is _::Is _::Is _::Is _::Is _::Is _::Is _::Is _::Is _::[]) ([]::[0]::[1]::[2]::[]::[]::[5]::[6]::[7]::[4,8]::[]::[3,9]::[]) (by kernel_rfl) (by kernel_rfl) (by rfl) (by kernel_rfl) (by kernel_rfl) Le.refl (fun _ _ _ h h'=>h.trans h') ⟨St.is,St.is,St.is,St.is,St.is,St.is,St.is,St.is,St.is,St.is,St.is,St.is,trivial⟩ ?m3
  case m3 =>
   simp (maxSteps:=100000000) only [AR,Bv,AK,AC,An,AD,Am,Au,List.set_cons_succ,List.set_cons_zero,List.getElem?_cons_zero,List.getElem?_cons_succ,List.take_succ_cons,List.take_zero,List.drop_succ_cons,List.drop_zero,List.cons_append,List.nil_append,List.length_cons,List.length_nil,Nat.reduceAdd]
   intro x0 x1 x2 x3 x4 x5 x6 x7 x8 x9 x10 x11
   refine⟨⟨?_,?_,?_,?_,?_,?_,?_,?_,?_,?_,?_,?_,trivial⟩,?_⟩
   ·intro wo hw KQ hK;go_simp;exact hK _ _ .r .m
   ·intro wo hw h0 KQ hK;cases h0;go_simp;exact hK _ _ .r .m
   ·intro wo hw h1 KQ hK;cases h1;go_simp;exact hK _ _ .r .m
   ·intro wo hw h2 KQ hK;cases h2;have kk:=Af (hw.heap HQ2.out.hQ) 0 (.slice (some ⟨A,0,none⟩) R R) rfl wo (Le.refl _);go_simp;exact hK _ _ .r .m
   ·intro wo hw KQ hK;go_simp;exact hK _ _ .r .m
   ·intro wo hw KQ hK;go_simp;exact hK _ _ .r .m
   ·intro wo hw h5 KQ hK;cases h5;go_simp;exact hK _ _ .r .m
   ·intro wo hw h6 KQ hK;cases h6;go_simp;exact hK _ _ .r .m
   ·intro wo hw h7 KQ hK;cases h7;have kk:=Af (hw.heap HQ2.out.hQ) 2 (.int .i64 vs.length) rfl wo (Le.refl _);go_simp;exact hK _ _ .r .m
   ·intro wo hw h4 h8 KQ hK;cases h4;cases h8;go_simp;refine (HPL.out _ ((Le.refl w2).drew.trans hw)).mono ?_;rintro r w' ⟨rfl,hb⟩;exact hK _ _ (Le.mk hb) (Is.mk _ _)
   ·intro wo hw KQ hK;go_simp;exact hK _ _ .r .m
   ·intro wo hw h3 h9 KQ hK;cases h3;cases h9;go_simp;exact hK _ _ .r .m
   ·intro wz hz h0 h1 h2 h3 h4 h5 h6 h7 h8 h9 h10 h11;cases h0;cases h1;cases h2;cases h3;cases h4;cases h5;cases h6;cases h7;cases h8;cases h9;cases h10;cases h11;skip
    have HQ3:=Aa (HQ2.out.le ((Le.refl w2).drew.trans hz))
    have LE3:=Aa (LE2.out.drew.trans hz)
    clear HQ2 LE2 HPL
    obtain⟨pre,old,post,hpre,hold,hrow⟩:=HQ3.out.row p hpR
    have HROW:=Aa (And.intro hpre (And.intro hold hrow))
    clear hpre hold hrow
    have q1:IntKind.i64.wrap ((vs.length:Int)+1)=(vs.length:Int)+1:=IntWalk.i64_in _ (by omega)
    obtain⟨u1,rfl⟩:∃ u1,old=[u1]:=by have:=HROW.out.2.1;match old,this with | [a],_=>exact⟨a,rfl⟩
    go_wp2_with (refine Ao rfl 64 (.tmp 19) (.tmp 18) rfl pre (v:=.pointer p1) (old:=u1) (post:=post) (by rw[HROW.out.1,Nat.mul_one];rfl) rfl (by kernel_rfl) rfl (by have:=HROW.out.2.2;rw[List.append_assoc,List.singleton_append] at this;exact this) ?_;intro w4 h4 hg4;have H4:=Aa h4;have HG4:=Aa hg4;have HH4:=Aa (Ai hg4 HQ3.out.hQ (by intro e;injection e with e;exact HQ3.out.ne e));have z4:=Ae HH4.out 2;have z5:=Ay HH4.out 2;clear h4 hg4)
    go_ret
    have hQ5:=AG (i:=2) (.int .i64 ((vs.length:Int)+1)) HH4.out
    have hA5:=AL (i:=2) (.int .i64 ((vs.length:Int)+1)) H4.out HQ3.out.ne
    refine⟨by rw[decide_eq_true hlt];rfl,?_,((Fp.of_le LE3.out).trans (Fp.of_grown HG4.out (.inr rfl))).setCell (.inl rfl) _⟩
    rw[if_pos hlt]
    exact HQ3.out.push hlt rfl (by rw[← HP.out];exact HROW.out.1) HROW.out.2.1 (by simpa using HROW.out.2.2) (by simpa using hA5) hQ5
 ·have hz:((R:Int) - vs.length==0)=true:=by rw[beq_iff_eq];omega
  go_wp2_with fail
  go_ret
  refine⟨by rw[decide_eq_false hlt];rfl,?_,Fp.of_le LE2.out⟩
  rw[if_neg hlt]
  exact HQ2.out
theorem qtPeek0 {w:World} {Q A R f:Nat} (h:QAt 359 64 1 w Q A R f []):Calls Tryz.prog 179 #[.pointer (some ⟨Q,0,none⟩)] w (Ax w (.tuple #[.pointer none,.bool false])):=by
 have HQ0:=Aa h
 clear h
 have LE:=Aa (Le.refl w)
 go_enter Tryz.func179,Tryz.ntmps179
 go_wp2_with fail
 refine (qtLen (HQ0.out.le LE.out)).mono ?_
 rintro e w2 ⟨rfl,hb⟩
 have LE2:=Aa (LE.out.trans ⟨hb⟩)
 clear hb
 simp only[List.length_nil]
 go_wp2_with fail
 go_ret2
 exact⟨rfl,LE2.out.out⟩
theorem qtPeek1 {w:World} {Q A R f:Nat} {vs:List (List Value)} (va:Value) (h:QAt 359 64 1 w Q A R f ([va]::vs)) (h1:∀ u∈[va],u.oneCell'=true):Calls Tryz.prog 179 #[.pointer (some ⟨Q,0,none⟩)] w (Ax w (.tuple #[va,.bool true])):=by
 have HQ0:=Aa h
 have H1:=Aa h1
 have hfR:=h.fR
 have hnR:=h.nR
 have hR1:=h.R1
 have hfI:(f:Int)<(R:Int):=by omega
 have hf0:(0:Int)≤(f:Int):=by omega
 clear h h1
 have LE:=Aa (Le.refl w)
 go_enter Tryz.func179,Tryz.ntmps179
 go_wp2_with fail
 refine (qtLen (HQ0.out.le LE.out)).mono ?_
 rintro e w2 ⟨rfl,hb⟩
 have LE2:=Aa (LE.out.trans ⟨hb⟩)
 have HQ2:=Aa (HQ0.out.le LE2.out)
 clear hb HQ0
 have hz:((List.length ([va]::vs):Int)==0)=false:=by rw[beq_eq_false_iff_ne];simp;omega
 go_upto_region 4 with fail
 refine' Aj 11 10 9 Le (Is _::Is _::Is _::Is _::Is _::Is _::Is _::Is _::Is _::Is _::Is _::[]) ([]::[0]::[1]::[2]::[]::[4]::[5]::[6]::[3,7]::[8]::[9]::[]) (by kernel_rfl) (by kernel_rfl) (by rfl) (by kernel_rfl) (by kernel_rfl) Le.refl (fun _ _ _ h h'=>h.trans h') ⟨St.is,St.is,St.is,St.is,St.is,St.is,St.is,St.is,St.is,St.is,St.is,trivial⟩ ?m4
 case m4 =>
  simp (maxSteps:=100000000) only [AR,Bv,AK,AC,An,AD,Am,Au,Act.put,List.setIfInBounds_toArray,List.set_cons_succ,List.set_cons_zero,List.getElem?_cons_zero,List.getElem?_cons_succ,List.take_succ_cons,List.take_zero,List.drop_succ_cons,List.drop_zero,List.cons_append,List.nil_append,List.length_cons,List.length_nil,Nat.reduceAdd]
  intro x0 x1 x2 x3 x4 x5 x6 x7 x8 x9 x10
  refine⟨⟨?_,?_,?_,?_,?_,?_,?_,?_,?_,?_,?_,trivial⟩,?_⟩
  ·intro wo hw KQ hK;go_simp;exact hK _ _ .r .m
  ·intro wo hw h0 KQ hK;cases h0;go_simp;exact hK _ _ .r .m
  ·intro wo hw h1 KQ hK;cases h1;go_simp;exact hK _ _ .r .m
  ·intro wo hw h2 KQ hK;cases h2;have kk:=Af (hw.heap HQ2.out.hQ) 0 (.slice (some ⟨A,0,none⟩) R R) rfl wo (Le.refl _);go_simp;exact hK _ _ .r .m
  ·intro wo hw KQ hK;go_simp;exact hK _ _ .r .m
  ·intro wo hw h4 KQ hK;cases h4;go_simp;exact hK _ _ .r .m
  ·intro wo hw h5 KQ hK;cases h5;go_simp;exact hK _ _ .r .m
  ·intro wo hw h6 KQ hK;cases h6;have kk:=Af (hw.heap HQ2.out.hQ) 1 (.int .i64 f) rfl wo (Le.refl _);go_simp;exact hK _ _ .r .m
  ·intro wo hw h3 h7 KQ hK;cases h3;cases h7;go_simp;exact hK _ _ .r .m
  ·intro wo hw h8 KQ hK;cases h8;have kk:wo.cell? ⟨A,f,none⟩=some va:=(by have:=((HQ2.out.le ((Le.refl w2).drew.trans hw)).first) 0 va rfl;simpa using this);go_simp;exact hK _ _ .r .m
  ·intro wo hw h9 KQ hK;cases h9;go_simp;exact hK _ _ .r .m
  ·intro wz hz h0 h1 h2 h3 h4 h5 h6 h7 h8 h9 h10;cases h0;cases h1;cases h2;cases h3;cases h4;cases h5;cases h6;cases h7;cases h8;cases h9;cases h10;skip
   have LE3:=Aa (LE2.out.drew.trans hz)
   go_wp2_with fail
   go_ret2
   exact⟨rfl,LE3.out.out⟩
theorem qtPop0 {w:World} {Q A R f:Nat} (h:QAt 359 64 1 w Q A R f []):Calls Tryz.prog 129 #[.pointer (some ⟨Q,0,none⟩)] w (Ax w (.tuple #[.pointer none,.bool false])):=by
 have HQ0:=Aa h
 clear h
 have LE:=Aa (Le.refl w)
 go_enter Tryz.func129,Tryz.ntmps129
 go_wp2_with fail
 refine (qtPeek0 (HQ0.out.le LE.out)).mono ?_
 rintro e w2 ⟨rfl,hb⟩
 have LE2:=Aa (LE.out.trans ⟨hb⟩)
 clear hb
 go_wp2_with fail
 go_ret2
 exact⟨rfl,LE2.out.out⟩
def qtPopP (w:World) (Q A R f:Nat) (vs:List (List Value)) (v:Value) (e:Ending) (w':World):Prop :=
 e=.returned (.tuple #[v,.bool true])∧QAt 359 64 1 w' Q A R ((f+1)%R) vs∧Fp (qS Q A) w w'
theorem qtPop1 {w:World} {Q A R f:Nat} {vs:List (List Value)} (va:Value) (h:QAt 359 64 1 w Q A R f ([va]::vs)) (h1:∀ u∈[va],u.oneCell'=true):Calls Tryz.prog 129 #[.pointer (some ⟨Q,0,none⟩)] w (qtPopP w Q A R f vs (va)):=by
 have HQ0:=Aa h
 have H1:=Aa h1
 have hfR:=h.fR
 have hnR:=h.nR
 have hR1:=h.R1
 have hfI:(f:Int)<(R:Int):=by omega
 have hf0:(0:Int)≤(f:Int):=by omega
 have hQlt:=Ah h.hQ
 have hAQ:=h.ne
 have hAlt:A<w.heap.size:=by obtain⟨cur,hA,_⟩:=h.hA;exact Ah hA
 clear h h1
 have LE:=Aa (Le.refl w)
 go_enter Tryz.func129,Tryz.ntmps129
 go_wp2_with fail
 refine (qtPeek1 va (HQ0.out.le LE.out) H1.out).mono ?_
 rintro e w2 ⟨rfl,hb⟩
 have LE2:=Aa (LE.out.trans ⟨hb⟩)
 have hsz2:=LE2.out.size
 have HQ2:=Aa (HQ0.out.le LE2.out)
 have HF2:=Aa (Fp.of_le (S:=qS Q A) LE2.out)
 clear hb HQ0
 go_upto_region 4 with fail
 refine' Aj 10 10 13 Le (Is _::Is _::Is _::Is _::Is _::Is _::Is _::Is _::Is _::Is _::[]) ([]::[0]::[1]::[2]::[]::[4]::[5]::[6]::[]::[3,7]::[]) (by kernel_rfl) (by kernel_rfl) (by rfl) (by kernel_rfl) (by kernel_rfl) Le.refl (fun _ _ _ h h'=>h.trans h') ⟨St.is,St.is,St.is,St.is,St.is,St.is,St.is,St.is,St.is,St.is,trivial⟩ ?m4
 case m4 =>
  simp (maxSteps:=100000000) only [AR,Bv,AK,AC,An,AD,Am,Au,List.set_cons_succ,List.set_cons_zero,List.getElem?_cons_zero,List.getElem?_cons_succ,List.take_succ_cons,List.take_zero,List.drop_succ_cons,List.drop_zero,List.cons_append,List.nil_append,List.length_cons,List.length_nil,Nat.reduceAdd]
  intro x0 x1 x2 x3 x4 x5 x6 x7 x8 x9
  refine⟨⟨?_,?_,?_,?_,?_,?_,?_,?_,?_,?_,trivial⟩,?_⟩
  ·intro wo hw KQ hK;go_simp;exact hK _ _ .r .m
  ·intro wo hw h0 KQ hK;cases h0;go_simp;exact hK _ _ .r .m
  ·intro wo hw h1 KQ hK;cases h1;go_simp;exact hK _ _ .r .m
  ·intro wo hw h2 KQ hK;cases h2;have kk:=Af (hw.heap HQ2.out.hQ) 0 (.slice (some ⟨A,0,none⟩) R R) rfl wo (Le.refl _);go_simp;exact hK _ _ .r .m
  ·intro wo hw KQ hK;go_simp;exact hK _ _ .r .m
  ·intro wo hw h4 KQ hK;cases h4;go_simp;exact hK _ _ .r .m
  ·intro wo hw h5 KQ hK;cases h5;go_simp;exact hK _ _ .r .m
  ·intro wo hw h6 KQ hK;cases h6;have kk:=Af (hw.heap HQ2.out.hQ) 1 (.int .i64 f) rfl wo (Le.refl _);go_simp;exact hK _ _ .r .m
  ·intro wo hw KQ hK;go_simp;exact hK _ _ .r .m
  ·intro wo hw h3 h7 KQ hK;cases h3;cases h7;go_simp;exact hK _ _ .r .m
  ·intro wz hz h0 h1 h2 h3 h4 h5 h6 h7 h8 h9;cases h0;cases h1;cases h2;cases h3;cases h4;cases h5;cases h6;cases h7;cases h8;cases h9;skip
   have HQ_3:=Aa (HQ2.out.le ((Le.refl w2).drew.trans hz))
   have HF_3:=Aa (HF2.out.trans (Fp.of_le ((Le.refl w2).drew.trans hz)))
   have LE_3:=Aa (Le.trans LE2.out ((Le.refl w2).drew.trans hz))
   clear HQ2 HF2 LE2
   obtain⟨pre,old,post,hpre,hold,hrow⟩:=HQ_3.out.row f hfR
   have HROW:=Aa (And.intro hpre (And.intro hold hrow))
   have HQC:=Aa (HQ_3.out.hQ)
   clear hpre hold hrow
   obtain⟨u1,rfl⟩:∃ u1,old=[u1]:=by have:=HROW.out.2.1;match old,this with | [a],_=>exact⟨a,rfl⟩
   have hszz:=LE_3.out.size
   clear LE_3
   go_upto_region 5 with (refine Ao rfl 64 (.tmp 22) (.tmp 21) rfl pre (v:=.pointer none) (old:=u1) (post:=post) (by rw[HROW.out.1,Nat.mul_one];rfl) rfl (by kernel_rfl) rfl (by have:=HROW.out.2.2;rw[List.append_assoc,List.singleton_append] at this;exact this) ?_;intro w4 hn hg;have HA4:=Aa hn;have HQ_4:=Aa (Ai hg HQC.out (by simp<;>omega));have HF_4:=Aa (HF_3.out.trans (Fp.of_grown hg (.inr rfl)));clear HQC HF_3 hn hg)
   obtain⟨fn,hfn⟩:∃ fn,fn=(f+1)%R:=⟨_,rfl⟩
   have HPL:=Aa (fun W hQ=>GJ (w:=W) (Q:=Q) (A:=A) (x:=.int .i64 (([va]::vs).length:Nat)) hQ hfR hR1 1 (by simp at hnR;omega))
   rw[← hfn] at HPL
   have HFN:=Aa hfn
   clear hfn
   go_wp2_with fail
   refine (HPL.out _ HQ_4.out).mono ?_
   rintro e w6 ⟨rfl,hb⟩
   have HQ_5:=Aa ((Le.mk hb).heap HQ_4.out)
   have HF_5:=Aa (HF_4.out.trans (Fp.of_le (Le.mk hb)))
   have HA4_5:=Aa ((Le.mk hb).heap HA4.out)
   clear HQ_4 HF_4 HA4 hb HPL
   have z1_5:=Af HQ_5.out 1 (.int .i64 f) rfl _ (Le.refl _)
   have y1_5:=Ay HQ_5.out 1
   go_upto_region 6 with fail
   clear z1_5 y1_5
   have HQ_6:=Aa (show (World.setCell w6 ⟨Q,1,none⟩ (.int .i64 fn)).heap[Q]?=some (.cells #[.slice (some ⟨A,0,none⟩) R R,.int .i64 fn,.int .i64 (([va]::vs).length:Nat)] 359 (0,0)) from AG (i:=1) (.int .i64 fn) HQ_5.out)
   have HF_6:=Aa (HF_5.out.setCell (p:=⟨Q,1,none⟩) (.inl rfl) (.int .i64 fn))
   have HA4_6:=Aa (AL (i:=1) (.int .i64 fn) HA4_5.out hAQ)
   clear HQ_5 HF_5 HA4_5 
   generalize (World.setCell w6 ⟨Q,1,none⟩ (.int .i64 fn))=w7 at *
   simp only[List.length_cons] at *
   have q1:IntKind.i64.wrap (((vs.length+1:Nat):Int) - 1)=vs.length:=by rw[IntWalk.i64_in _ (by omega)];omega
   have z2_6:=Af HQ_6.out 2 (.int .i64 ((vs.length+1:Nat):Int)) rfl _ (Le.refl _)
   have y2_6:=Ay HQ_6.out 2
   go_upto_region 7 with fail
   clear z2_6 y2_6
   have HQ_7:=Aa (show (World.setCell w7 ⟨Q,2,none⟩ (.int .i64 vs.length)).heap[Q]?=some (.cells #[.slice (some ⟨A,0,none⟩) R R,.int .i64 fn,.int .i64 vs.length] 359 (0,0)) from AG (i:=2) (.int .i64 vs.length) HQ_6.out)
   have HF_7:=Aa (HF_6.out.setCell (p:=⟨Q,2,none⟩) (.inl rfl) (.int .i64 vs.length))
   have HA4_7:=Aa (AL (i:=2) (.int .i64 vs.length) HA4_6.out hAQ)
   clear HQ_6 HF_6 HA4_6 
   generalize (World.setCell w7 ⟨Q,2,none⟩ (.int .i64 vs.length))=w8 at *
   go_wp2_with fail
   go_ret2
   refine⟨rfl,?_,HF_7.out⟩
   exact HQ_3.out.pop (z:=[.pointer none]) (old:=[u1]) rfl HROW.out.1 rfl HROW.out.2.2 (by have:=HA4_7.out;rw[List.append_assoc];exact this) (by rw[← HFN.out];exact HQ_7.out)
theorem DV {w2:World} {b g T s n:Nat} {z:Value} {zs:List Value} (h:w2.ownsRow b T s (.slice (some ⟨g,0,none⟩) n n) n (madeCells z.cells (n*s)).toList) (hz:z.cells=zs.toArray) (hs:zs.length=s) (hp:0<s) :
  ∃ cur:List Value,w2.heap[g]?=some (.cells cur.toArray T (0,0))∧cur.length=n*s∧Cz cur s (List.replicate n zs):=by
 obtain⟨hl,⟨hv,_⟩ | ⟨g',cap,cur,hv,hg0,hg,hnc,hcm,hcs,htk⟩⟩:=h
 ·cases hv
 ·injection hv with hv1 hv2 hv3
  injection hv1 with hv1
  injection hv1 with hv1
  subst hv1 hv3
  have hrow:=Hk hz n (by omega)
  rw[hs] at hrow
  have hcur:cur.toList=(madeCells z.cells (n*s)).toList:=by
   rw[← htk,List.take_of_length_le (by simp[hcs])]
  exact⟨cur.toList,by rw[Array.toArray_toList];exact hg,by simpa using hcs,by rw[hcur];exact hrow⟩
def Wk.zero:Wk:=⟨0,0,false⟩
def PnNewP (w:World) (n:Nat) (e:Ending) (w':World):Prop :=
 ∃ p,e=.returned (.pointer (some ⟨p,0,none⟩))∧Gi (fun k=>w.heap.size≤k) w' p ⟨List.replicate n Wk.zero,[]⟩∧Le w w'
theorem pnNew_any (w:World) (n:Nat) (h1:1≤n) (h2:n≤4):Calls Tryz.prog 51 #[.int .i64 n] w (PnNewP w n):=by
 have i1:¬ (n:Int)<1:=by omega
 have i2:¬ 4<(n:Int):=by omega
 obtain⟨R,hR⟩:∃ R,R=PnNewP w n:=⟨_,rfl⟩
 rw[← hR]
 have HR:=Aa hR
 clear hR
 go_enter Tryz.func51,Tryz.ntmps51
 go_wp2_with (refine CC rfl slWk _ _ rfl (kl:=.i64) (kc:=.i64) (n:=n) rfl rfl (by omega) (by omega) ?_;intro w2 ho2 hle2;have HL2:=Aa hle2;have HO2:=Aa ho2;clear ho2 hle2)
 rw[HR.out]
 obtain⟨cur,hg,hl,hr⟩:=DV HO2.out (zs:=wkC Wk.zero) rfl rfl (by omega)
 refine⟨w2.heap.size,rfl,⟨w.heap.size,.slice none 0 0,⟨?_,⟨cur,heap_alloc hg,?_,?_⟩,AA.nil,HL2.out.size,Nat.le_refl _,?_,by simp⟩⟩,HL2.out.alloc _⟩
 ·show _=some (Obj.cells #[.slice (some ⟨w.heap.size,0,none⟩) (List.replicate n Wk.zero).length (List.replicate n Wk.zero).length,.slice none 0 0] _ _)
  rw[List.length_replicate]
  exact heap_alloc_new w2 _
 ·show cur.length=(List.replicate n Wk.zero).length*3
  rw[List.length_replicate];exact hl
 ·show Cz cur 3 ((List.replicate n Wk.zero).map wkC)
  rw[List.map_replicate];exact hr
 ·show 1≤(List.replicate n Wk.zero).length∧(List.replicate n Wk.zero).length≤4
  rw[List.length_replicate];exact⟨h1,h2⟩
theorem slqc:SlT Tryz.prog 282 159 (.agg #[.int .i64 0,.slice none 0 0]) 2 32:=⟨Tryz.underlying282,by kernel_rfl,rfl,by omega⟩
def qcNewP (w:World) (n:Nat) (e:Ending) (w':World):Prop :=
 ∃ Q A,e=.returned (.pointer (some ⟨Q,0,none⟩))∧QAt 284 159 2 w' Q A n 0 []∧Le w w'∧w.heap.size≤Q∧w.heap.size≤A
theorem qcNew_any (w:World) (n:Nat) (h1:1≤n) (h2:n≤4096):Calls Tryz.prog 109 #[.int .i64 n] w (qcNewP w n):=by
 have i1:¬ (n:Int)<1:=by omega
 have i2:¬ 4096<(n:Int):=by omega
 obtain⟨R,hR⟩:∃ R,R=qcNewP w n:=⟨_,rfl⟩
 rw[← hR]
 have HR:=Aa hR
 clear hR
 go_enter Tryz.func109,Tryz.ntmps109
 go_wp2_with (refine CC rfl slqc _ _ rfl (kl:=.i64) (kc:=.i64) (n:=n) rfl rfl (by omega) (by omega) ?_;intro w2 ho2 hle2;have HL2:=Aa hle2;have HO2:=Aa ho2;clear ho2 hle2)
 rw[HR.out]
 obtain⟨cur,hg,hl,hr⟩:=DV HO2.out (zs:=[.int .i64 0,.slice none 0 0]) rfl rfl (by omega)
 have hsz:=Ah hg
 refine⟨w2.heap.size,w.heap.size,rfl,⟨heap_alloc_new w2 _,⟨cur,heap_alloc hg,hl,fun i v hi=>by simp at hi⟩,by omega,by simp,by simp,h2,by omega⟩,HL2.out.alloc _,HL2.out.size,Nat.le_refl _⟩
theorem slqa:SlT Tryz.prog 354 271 (.agg #[.int .i64 0,.int .u64 0]) 2 16:=⟨Tryz.underlying354,by kernel_rfl,rfl,by omega⟩
def qaNewP (w:World) (n:Nat) (e:Ending) (w':World):Prop :=
 ∃ Q A,e=.returned (.pointer (some ⟨Q,0,none⟩))∧QAt 356 271 2 w' Q A n 0 []∧Le w w'∧w.heap.size≤Q∧w.heap.size≤A
theorem qaNew_any (w:World) (n:Nat) (h1:1≤n) (h2:n≤4096):Calls Tryz.prog 107 #[.int .i64 n] w (qaNewP w n):=by
 have i1:¬ (n:Int)<1:=by omega
 have i2:¬ 4096<(n:Int):=by omega
 obtain⟨R,hR⟩:∃ R,R=qaNewP w n:=⟨_,rfl⟩
 rw[← hR]
 have HR:=Aa hR
 clear hR
 go_enter Tryz.func107,Tryz.ntmps107
 go_wp2_with (refine CC rfl slqa _ _ rfl (kl:=.i64) (kc:=.i64) (n:=n) rfl rfl (by omega) (by omega) ?_;intro w2 ho2 hle2;have HL2:=Aa hle2;have HO2:=Aa ho2;clear ho2 hle2)
 rw[HR.out]
 obtain⟨cur,hg,hl,hr⟩:=DV HO2.out (zs:=[.int .i64 0,.int .u64 0]) rfl rfl (by omega)
 have hsz:=Ah hg
 refine⟨w2.heap.size,w.heap.size,rfl,⟨heap_alloc_new w2 _,⟨cur,heap_alloc hg,hl,fun i v hi=>by simp at hi⟩,by omega,by simp,by simp,h2,by omega⟩,HL2.out.alloc _,HL2.out.size,Nat.le_refl _⟩
theorem slqt:SlT Tryz.prog 357 64 (.pointer none) 1 8:=⟨Tryz.underlying357,by kernel_rfl,rfl,by omega⟩
def qtNewP (w:World) (n:Nat) (e:Ending) (w':World):Prop :=
 ∃ Q A,e=.returned (.pointer (some ⟨Q,0,none⟩))∧QAt 359 64 1 w' Q A n 0 []∧Le w w'∧w.heap.size≤Q∧w.heap.size≤A
theorem qtNew_any (w:World) (n:Nat) (h1:1≤n) (h2:n≤4096):Calls Tryz.prog 108 #[.int .i64 n] w (qtNewP w n):=by
 have i1:¬ (n:Int)<1:=by omega
 have i2:¬ 4096<(n:Int):=by omega
 obtain⟨R,hR⟩:∃ R,R=qtNewP w n:=⟨_,rfl⟩
 rw[← hR]
 have HR:=Aa hR
 clear hR
 go_enter Tryz.func108,Tryz.ntmps108
 go_wp2_with (refine CC rfl slqt _ _ rfl (kl:=.i64) (kc:=.i64) (n:=n) rfl rfl (by omega) (by omega) ?_;intro w2 ho2 hle2;have HL2:=Aa hle2;have HO2:=Aa ho2;clear ho2 hle2)
 rw[HR.out]
 obtain⟨cur,hg,hl,hr⟩:=DV HO2.out (zs:=[.pointer none]) rfl rfl (by omega)
 have hsz:=Ah hg
 refine⟨w2.heap.size,w.heap.size,rfl,⟨heap_alloc_new w2 _,⟨cur,heap_alloc hg,hl,fun i v hi=>by simp at hi⟩,by omega,by simp,by simp,h2,by omega⟩,HL2.out.alloc _,HL2.out.size,Nat.le_refl _⟩
theorem Gr.fpRow_trk {row:Option Nat} {w w':World} (h:Gr row w w'):Fp (fun k=>row=some k) w w':=⟨h.out.os,h.out.tape,h.out.output,h.out.size,fun k hk hs=>h.out.block k hk (fun e=>hs e.symm)⟩
def GU (M:Nat→Prop) (w:World) (v:Value) (xs:List (List Value)) (i:Nat) (x:List Value) (e:Ending) (w':World):Prop :=
 ∃ v',e=.returned v'∧AA (Gn M w) w' 182 4 v' (AV xs i x)∧Fp (fun k=>v.ownBlock=some k) w w'
theorem ins_trk {M:Nat→Prop} {w:World} {v:Value} {xs:List (List Value)} (hO:AA M w 182 4 v xs) (hn:xs.length≤1000) (i:Nat) (hi:i≤xs.length) (x:List Value) (hx:x.length=4) (h1x:∀ u∈x,u.oneCell'=true) (h1:∀ y∈xs,∀ u∈y,u.oneCell'=true)
  (gv:Nat) (hgv:w.heap[gv]?=some (.cells x.toArray 182 (0,0))) (hne:v.ownBlock≠some gv) :
  Calls Tryz.prog 206 #[v,.int .i64 i,.slice (some ⟨gv,0,none⟩) 1 1] w (GU M w v xs i x):=by
 have HO:=Aa hO
 have HX:=Aa hx
 have H1X:=Aa h1x
 have H1:=Aa h1
 have HGV:=Aa hgv
 have HNE:=Aa hne
 obtain⟨R,hR⟩:∃ R,R=GU M w v xs i x:=⟨_,rfl⟩
 rw[← hR]
 have HR:=Aa hR
 clear hR hO hx h1x h1 hgv hne
 rcases Nat.lt_or_ge i xs.length with hlt | hge
 ·-- in the middle
  have e0:=List.getElem?_eq_getElem (show 0<xs.length by omega)
  rcases HO.out.val with ⟨_,e⟩ | ⟨g,cap,cur,hv,hM,hg,hc,hm,hs,hr⟩
  ·subst e;simp at hlt
  subst hv
  have hA:=Dh HO.out.len (Nat.le_of_lt hlt)
  have hD:=Dg HO.out.len i
  have hcl0:cur.toList.length=cap*4:=by simpa using hs
  have htk:=hr.take HO.out.len (by rw[hcl0];exact Nat.mul_le_mul_right _ hc)
  have hxsf:xs.flatten=(xs.take i).flatten++(xs.drop i).flatten:=by rw[← List.flatten_append,List.take_append_drop]
  have hcur:cur.toList=(xs.take i).flatten++(xs.drop i).flatten++cur.toList.drop (xs.length*4):=by
   rw[← hxsf,← htk,List.take_append_drop]
  have hRl:(cur.toList.drop (xs.length*4)).length=(cap - xs.length)*4:=by rw[List.length_drop,hcl0,Nat.sub_mul]
  have h1D:∀ u∈(xs.drop i).flatten,u.oneCell'=true:=Bf fun y hy=>H1.out y (List.mem_of_mem_drop hy)
  have hgl:w.heap[g]?=some (.cells cur.toList.toArray 182 (0,0)):=by rw[Array.toArray_toList];exact hg
  have hsrc:∀ (W:World) (cl:List Value),W.heap[g]?=some (.cells cl.toArray 182 (0,0))→cl.take (xs.length*4)=xs.flatten→W.rangeAt g (i*4) (xs.drop i).flatten:=fun W cl hW hcl j u hj=>by
   have hjl:=(List.getElem?_eq_some_iff.1 hj).1
   rw[hD] at hjl
   have h5:(xs.length - i)*4=xs.length*4 - i*4:=Nat.sub_mul ..
   have h6:i*4+j<xs.length*4:=by omega
   rw[Ae hW,List.getElem?_toArray]
   have h7:(cl.take (xs.length*4))[i*4+j]?=cl[i*4+j]?:=by rw[List.getElem?_take,if_pos h6]
   rw[← h7,hcl,hxsf,← hA,List.getElem?_append_right (by omega),Nat.add_sub_cancel_left]
   exact hj
  have hgg:g≠gv:=fun e=>HNE.out (by rw[← e];rfl)
  have iI:¬ (i:Int)=(xs.length:Int):=by omega
  have iz:((i:Int)==(xs.length:Int))=false:=by rw[beq_eq_false_iff_ne];exact iI
  have q1:IntKind.i64.wrap ((xs.length:Int)+1)=((xs.length+1:Nat):Int):=by rw[IntWalk.i64_in _ (by omega)];simp
  have q2:IntKind.i64.wrap (((xs.length+1:Nat):Int) - (i:Int))=((xs.length+1 - i:Nat):Int):=by rw[IntWalk.i64_in _ (by omega)];omega
  have q3:IntKind.i64.wrap ((i:Int)+1)=((i+1:Nat):Int):=by rw[IntWalk.i64_in _ (by omega)];simp
  have s1:(i:Int)≤(xs.length:Int):=by omega
  have s2:i<cap:=by omega
  have s3:¬ cap=i:=by omega
  have HAL:=Aa hA
  have HDL:=Aa hD
  have HTK:=Aa htk
  have HCU:=Aa hcur
  have HRL:=Aa hRl
  have H1D:=Aa h1D
  have HG:=Aa hgl
  have HSR:=Aa hsrc
  have HGG:=Aa hgg
  have HM:=Aa hM
  have HCM:=Aa hm
  have HCS:=Aa hcl0
  clear hcl0
  have HXF:=Aa hxsf
  clear hA hD htk hcur hRl h1D hgl hsrc hgg hM hm hs hr hg hxsf e0
  rcases Nat.lt_or_ge cap (xs.length+1) with hfull | hroom
  ·obtain rfl:cap=xs.length:=by omega
   have hfI:(xs.length:Int)<((xs.length+1:Nat):Int):=by omega
   go_enter Tryz.func206,Tryz.ntmps206
   have HK:=Aa (show ((xs.length:Int)+1 - (i:Int))=((xs.length+1 - i:Nat):Int) by omega)
   have HRA:=Aa (show w.rangeAt g 0 (xs.take i).flatten from fun j u hj=>by
    have hjl:=(List.getElem?_eq_some_iff.1 hj).1
    rw[Ae HG.out,List.getElem?_toArray,Nat.zero_add,HCU.out,List.append_assoc,List.getElem?_append_left hjl]
    exact hj)
   go_upto_region 10 with (refine Fb rfl FO Tryz.underlying3 (.tmp 34) (.tmp 39) rfl (g:=g) (n:=i) (cap:=xs.length) (k:=xs.length+1 - i) (m:=xs.length+1) rfl (show Value.int .i64 _=Value.int .i64 _ by rw[HK.out]) HRA.out HAL.out (by omega) (by omega) (by omega) (by omega) (by omega) ?_;intro w3 c3 z3 h3 hz3 hc3 hm3 hl3;have H3:=Aa h3;have HZ3:=Aa hz3;have HL3:=Aa hl3;have HM3:=Aa hm3;clear h3 hz3 hl3 hm3)
   have HGN:=Aa (Ah HG.out)
   have HVN:=Aa (Ah HGV.out)
   generalize hgn:w.heap.size=gn at *
   have HSN:=Aa hgn
   clear hgn
   have t1:(i:Int)≤(xs.length:Int)+1:=by omega
   have t2:i<c3:=by omega
   have t3:¬ c3=i:=by omega
   have hz3l:z3.length=(c3 - i)*4:=HZ3.out
   have hle3:4+(xs.length - i)*4≤z3.length:=by rw[hz3l];have:=Nat.mul_le_mul_right 4 (show xs.length - i+1≤c3 - i by omega);rw[Nat.succ_mul] at this;omega
   have HLE3:=Aa hle3
   clear hz3l hle3
   have HC0:=Aa (show ((xs.take i).flatten++z3).length=i*4+z3.length by rw[List.length_append,HAL.out])
   go_upto_region 11 with (refine Be rfl (.tmp 43) (.tmp 44) 59 59 rfl Tryz.underlying59 (size:=4) (by kernel_rfl) (g:=gn) (off:=i*4) (b:=gv) (o2:=0) rfl rfl H3.out (cs:=x) (n:=1) ?_ ?_ ?_ ?_ H1X.out ?_;(focus (show 1=min 1 _;omega));(focus (have:=HX.out;omega));(focus (intro j u hj;rw[Nat.zero_add];refine HL3.out.cell ?_;rw[Ae HGV.out];simpa using hj));(focus (rw[HC0.out,HX.out];have:=HLE3.out;omega));intro w4 h4 hg4;have H4:=Aa h4;have HG4:=Aa hg4;clear h4 hg4)
   have HG5:=Aa ((Le.refl w4).drew.heap (Ai HG4.out (HL3.out.heap HG.out) (by intro e;injection e with e;have:=HGN.out;omega)))
   have H5:=Aa ((Le.refl w4).drew.heap H4.out)
   have t4:(i:Int)+1≤(xs.length:Int)+1:=by omega
   have t5:i+1<c3:=by omega
   have t6:¬ c3=i+1:=by omega
   refine' Aj 8 8 46 Le (Is _::Is _::Is _::Is _::Is _::Is _::Is _::Is _::[]) ([]::[]::[]::[1,2]::[0,3]::[]::[]::[5,6]::[]) (by kernel_rfl) (by kernel_rfl) (by rfl) (by kernel_rfl) (by kernel_rfl) Le.refl (fun _ _ _ h h'=>h.trans h') ⟨St.is,St.is,St.is,St.is,St.is,St.is,St.is,St.is,trivial⟩ ?m11
   case m11 =>
    simp (maxSteps:=100000000) only [AR,Bv,AK,AC,An,AD,Am,Au,List.set_cons_succ,List.set_cons_zero,List.getElem?_cons_zero,List.getElem?_cons_succ,List.take_succ_cons,List.take_zero,List.drop_succ_cons,List.drop_zero,List.cons_append,List.nil_append,List.length_cons,List.length_nil,Nat.reduceAdd]
    intro x0 x1 x2 x3 x4 x5 x6 x7
    refine⟨⟨?_,?_,?_,?_,?_,?_,?_,?_,trivial⟩,?_⟩
    ·intro wo hw KQ hK;go_simp;exact hK _ _ .r .m
    ·intro wo hw KQ hK;go_simp;exact hK _ _ .r .m
    ·intro wo hw KQ hK;go_simp;exact hK _ _ .r .m
    ·intro wo hw h1 h2 KQ hK;cases h1;cases h2;go_simp;exact hK _ _ .r .m
    ·intro wo hw h0 h3 KQ hK;cases h0;cases h3;go_simp;exact hK _ _ .r .m
    ·intro wo hw KQ hK;go_simp;exact hK _ _ .r .m
    ·intro wo hw KQ hK;go_simp;exact hK _ _ .r .m
    ·intro wo hw h5 h6 KQ hK;cases h5;cases h6;go_simp;exact hK _ _ .r .m
    ·intro wz hz h0 h1 h2 h3 h4 h5 h6 h7;cases h0;cases h1;cases h2;cases h3;cases h4;cases h5;cases h6;cases h7;skip
     have HZG:=Aa (hz.heap HG5.out)
     have HZN:=Aa (hz.heap H5.out)
     have HLZ:=Aa ((Le.refl w4).drew.trans hz)
     have HC1:=Aa (show (((xs.take i).flatten++z3).take (i*4)++x++((xs.take i).flatten++z3).drop (i*4+x.length)).length=i*4+z3.length by
      have h1:=HLE3.out
      have h2:=HX.out
      simp only[List.length_append,List.length_take,List.length_drop,HAL.out]
      omega)
     clear HG5 H5 hz
     go_wp2_with (refine Be rfl (.tmp 50) (.tmp 53) 59 59 rfl Tryz.underlying59 (size:=4) (by kernel_rfl) (g:=gn) (off:=(i+1)*4) (b:=g) (o2:=i*4) rfl rfl HZN.out (cs:=(xs.drop i).flatten) (n:=xs.length - i) ?_ HDL.out ?_ ?_ H1D.out ?_;(focus (show xs.length - i=min _ _;omega));(focus (exact HSR.out wz cur.toList HZG.out HTK.out));(focus (rw[HC1.out,HDL.out];have:=HLE3.out;omega));intro w6 h6 hg6;have H6:=Aa h6;have HG6:=Aa hg6;clear h6 hg6)
     rw[HR.out]
     obtain⟨R',hrow,hRl⟩:=Ee (cur:=(xs.take i).flatten++z3) rfl HAL.out HDL.out HX.out (Nat.le_of_lt hlt) HLE3.out
     have h6:=H6.out
     rw[hrow,← CE] at h6
     have hil:=DC HO.out.len HX.out (i:=i)
     have hfl:=AJ hil
     have hin:(AV xs i x).length=xs.length+1:=BH ..
     rw[hin] at hfl
     have hz9:=HZ3.out
     have hmul:(c3 - i)*4=4+(xs.length - i)*4+(c3 - (xs.length+1))*4:=by
      have:c3 - i=1+(xs.length - i)+(c3 - (xs.length+1)):=by omega
      rw[this,Nat.add_mul,Nat.add_mul,Nat.one_mul]
     have hmul2:c3*4=(xs.length+1)*4+(c3 - (xs.length+1))*4:=by rw[← Nat.add_mul];congr 1;omega
     have hgf:Fp (fun k=>(Value.slice (some ⟨g,0,none⟩) xs.length xs.length).ownBlock=some k) w w6 :=
      (((Fp.of_le HL3.out).fresh HG4.out (Nat.le_of_eq HSN.out)).trans (Fp.of_le HLZ.out)).fresh HG6.out (Nat.le_of_eq HSN.out)
     refine⟨.slice (some ⟨gn,0,none⟩) (xs.length+1) c3,rfl,⟨⟨?_,.inr ⟨gn,c3,((AV xs i x).flatten++R').toArray,?_,Nat.zero_le _,h6,?_,HM3.out,?_,?_⟩⟩,fun k hk=>?_,hil⟩,hgf⟩
     ·rw[hin];exact hfl
     ·rw[hin]
     ·rw[hin];exact hc3
     ·rw[List.size_toArray,List.length_append,hfl]
      rw[HDL.out] at hRl
      omega
     ·rw[hin,← hfl,List.take_left']
      rfl
     ·simp only[Value.ownBlock,Option.some.injEq] at hk
      exact .inr (by rw[← hk];exact Nat.le_of_eq HSN.out)
  ·have hfI:¬ (cap:Int)<((xs.length+1:Nat):Int):=by omega
   go_enter Tryz.func206,Tryz.ntmps206
   have HSH:=Aa (show w.shape? gv=some (182,x.length) by simp[World.shape?,HGV.out])
   have HSG:=Aa (show w.shape? g=some (182,cur.toList.length) by simp[World.shape?,HG.out])
   have hov:∀ lb cb,(callFunc 239 #[.slice (some ⟨gv,0,none⟩) 1 1,.slice (some ⟨g,(i+1)*4,none⟩) lb cb]).run Tryz.prog w=.ok (.value (.bool false)) w:=fun lb cb=>by
    rw[run_callFunc_extern Tryz.func239 (by kernel_rfl) (by kernel_rfl) (by kernel_rfl) (e:=Extern.SlicesOverlaps.overlaps #[59,59] #[4]) (by kernel_rfl),Lib.run_overlaps_apart w 59 4 182 Tryz.underlying59 4 (fun w=>by kernel_rfl) ⟨gv,0,none⟩ ⟨g,(i+1)*4,none⟩ 1 1 lb cb (fun e=>HGG.out e.symm) 182 182 _ _ HSH.out HSG.out (by rw[HCS.out];have:=Nat.mul_le_mul_right 4 (show 1≤cap by omega);omega) (Ay HGV.out 0) (Ay HGV.out _)]
    rfl
   have t1:(xs.length:Int)+1≤(cap:Int):=by omega
   have t7:(i:Int)≤(xs.length:Int)+1:=by omega
   have t4:(i:Int)+1≤(xs.length:Int)+1:=by omega
   have t5:i+1<cap:=by omega
   have t6:¬ cap=i+1:=by omega
   go_upto_region 15 with fail
   clear hov
   have HGD:=Aa ((Le.refl w).drew.heap HG.out)
   refine' Aj 8 8 69 Le (Is _::Is _::Is _::Is _::Is _::Is _::Is _::Is _::[]) ([]::[]::[]::[1,2]::[0,3]::[]::[]::[5,6]::[]) (by kernel_rfl) (by kernel_rfl) (by rfl) (by kernel_rfl) (by kernel_rfl) Le.refl (fun _ _ _ h h'=>h.trans h') ⟨St.is,St.is,St.is,St.is,St.is,St.is,St.is,St.is,trivial⟩ ?m15
   case m15 =>
    simp (maxSteps:=100000000) only [AR,Bv,AK,AC,An,AD,Am,Au,List.set_cons_succ,List.set_cons_zero,List.getElem?_cons_zero,List.getElem?_cons_succ,List.take_succ_cons,List.take_zero,List.drop_succ_cons,List.drop_zero,List.cons_append,List.nil_append,List.length_cons,List.length_nil,Nat.reduceAdd]
    intro x0 x1 x2 x3 x4 x5 x6 x7
    refine⟨⟨?_,?_,?_,?_,?_,?_,?_,?_,trivial⟩,?_⟩
    ·intro wo hw KQ hK;go_simp;exact hK _ _ .r .m
    ·intro wo hw KQ hK;go_simp;exact hK _ _ .r .m
    ·intro wo hw KQ hK;go_simp;exact hK _ _ .r .m
    ·intro wo hw h1 h2 KQ hK;cases h1;cases h2;go_simp;exact hK _ _ .r .m
    ·intro wo hw h0 h3 KQ hK;cases h0;cases h3;go_simp;exact hK _ _ .r .m
    ·intro wo hw KQ hK;go_simp;exact hK _ _ .r .m
    ·intro wo hw KQ hK;go_simp;exact hK _ _ .r .m
    ·intro wo hw h5 h6 KQ hK;cases h5;cases h6;go_simp;exact hK _ _ .r .m
    ·intro wz hz h0 h1 h2 h3 h4 h5 h6 h7;cases h0;cases h1;cases h2;cases h3;cases h4;cases h5;cases h6;cases h7;skip
     have HZG:=Aa (hz.heap HGD.out)
     have HLZ:=Aa ((Le.refl w).drew.trans hz)
     clear hz
     go_upto_region 16 with (refine Be rfl (.tmp 73) (.tmp 76) 59 59 rfl Tryz.underlying59 (size:=4) (by kernel_rfl) (g:=g) (off:=(i+1)*4) (b:=g) (o2:=i*4) rfl rfl HZG.out (cs:=(xs.drop i).flatten) (n:=xs.length - i) ?_ HDL.out ?_ ?_ H1D.out ?_;(focus (show xs.length - i=min _ _;omega));(focus (exact HSR.out wz cur.toList HZG.out HTK.out));(focus (rw[HCS.out,HDL.out];have:=Nat.mul_le_mul_right 4 (show xs.length+1≤cap by omega);have h2:(xs.length - i)*4=xs.length*4 - i*4:=Nat.sub_mul ..;have h3:=Nat.mul_le_mul_right 4 (Nat.le_of_lt hlt);rw[Nat.succ_mul] at this ⊢;omega));intro w5 h5 hg5;have H5:=Aa h5;have HG5:=Aa hg5;clear h5 hg5)
     have hRl3:4≤(cur.toList.drop (xs.length*4)).length:=by rw[HRL.out];have:=Nat.mul_le_mul_right 4 (show 1≤cap - xs.length by omega);omega
     obtain⟨R',hrow,hRl⟩:=Eo (cur:=cur.toList) HCU.out HAL.out HDL.out HX.out (Nat.le_of_lt hlt) hRl3
     have HROW:=Aa hrow
     have HRL2:=Aa hRl
     have HLC:=Aa (show (cur.toList.take ((i+1)*4)++(xs.drop i).flatten++cur.toList.drop ((i+1)*4+(xs.drop i).flatten.length)).length=cap*4 by
      have h1:=HCS.out
      have h2:=HDL.out
      have h3:(xs.length - i)*4=xs.length*4 - i*4:=Nat.sub_mul ..
      have h4:=Nat.mul_le_mul_right 4 (Nat.le_of_lt hlt)
      have h5:=Nat.mul_le_mul_right 4 (show xs.length+1≤cap by omega)
      rw[Nat.succ_mul] at h5
      have h6:(i+1)*4=i*4+4:=Nat.succ_mul ..
      simp only[List.length_append,List.length_take,List.length_drop]
      omega)
     clear hrow hRl hRl3
     go_wp2_with (refine Be rfl (.tmp 80) (.tmp 81) 59 59 rfl Tryz.underlying59 (size:=4) (by kernel_rfl) (g:=g) (off:=i*4) (b:=gv) (o2:=0) rfl rfl H5.out (cs:=x) (n:=1) ?_ ?_ ?_ ?_ H1X.out ?_;(focus (show 1=min 1 _;omega));(focus (have:=HX.out;omega));(focus (intro j u hj;rw[Nat.zero_add];have h9:=Ai HG5.out (HLZ.out.heap HGV.out) (by intro e;injection e with e;exact HGG.out e);rw[Ae h9];simpa using hj));(focus (rw[HLC.out,HX.out];have h5:=Nat.mul_le_mul_right 4 (show i+1≤cap by omega);rw[Nat.succ_mul] at h5;omega));intro w6 h6 hg6;have H6:=Aa h6;have HG6:=Aa hg6;clear h6 hg6)
     rw[HR.out]
     have h6:=H6.out
     rw[HROW.out,← CE] at h6
     have hil:=DC HO.out.len HX.out (i:=i)
     have hfl:=AJ hil
     have hin:(AV xs i x).length=xs.length+1:=BH ..
     rw[hin] at hfl
     refine⟨.slice (some ⟨g,0,none⟩) (xs.length+1) cap,rfl,⟨⟨?_,.inr ⟨g,cap,((AV xs i x).flatten++R').toArray,?_,Nat.zero_le _,h6,?_,HCM.out,?_,?_⟩⟩,fun k hk=>?_,hil⟩,(Fp.of_le HLZ.out).trans ((Fp.of_grown (S:=fun k=>(Value.slice (some ⟨g,0,none⟩) xs.length cap).ownBlock=some k) HG5.out rfl).trans (Fp.of_grown HG6.out rfl))⟩
     ·rw[hin];exact hfl
     ·rw[hin]
     ·rw[hin];omega
     ·have h7:=HRL2.out
      have h8:=HRL.out
      have h9:(cap - xs.length)*4=cap*4 - xs.length*4:=Nat.sub_mul ..
      have h10:=Nat.mul_le_mul_right 4 (show xs.length≤cap by omega)
      rw[List.size_toArray,List.length_append,hfl,Nat.succ_mul]
      omega
     ·rw[hin,← hfl,List.take_left']
      rfl
     ·simp only[Value.ownBlock,Option.some.injEq] at hk
      exact .inl (by rw[← hk];exact HM.out)
 ·obtain rfl:i=xs.length:=by omega
  have iz:((xs.length:Int)==(xs.length:Int))=true:=by simp
  have HIN:=Aa (show AV xs xs.length x=xs++[x] by rw[AV,List.take_length,List.drop_length])
  obtain⟨A,cap,hv,_,hnil,hcap⟩:=HO.out.cells
  subst hv
  have HB:=Aa (show BsF (Value.slice A xs.length cap).ownBlock x 182 (.slice (some ⟨gv,0,none⟩) 1 1) w from ⟨gv,rfl,HNE.out,HGV.out⟩)
  cases A with
  | none =>
   obtain⟨hx0,hc0⟩:=hnil rfl
   subst hx0 hc0
   go_enter Tryz.func206,Tryz.ntmps206
   go_wp2_with (refine Br rfl FO (.tmp 23) (.tmp 24) rfl HO.out (Le.refl w) rfl rfl HB.out HX.out H1X.out (by first | omega | simp) (by omega) ?_;intro v' w4 h4 h5;have H4:=Aa h4;clear h4 h5)
   rw[HR.out]
   exact⟨v',rfl,by rw[HIN.out];exact H4.out.ownR HO.out HX.out,Gr.fpRow_trk H4.out.gr⟩
  | some A =>
   clear hnil
   have s1:(xs.length:Int)≤(xs.length:Int):=by omega
   rcases Nat.lt_or_ge xs.length cap with hc | hc
   ·have s2:¬ cap=xs.length:=by omega
    go_enter Tryz.func206,Tryz.ntmps206
    go_wp2_with (refine Br rfl FO (.tmp 23) (.tmp 24) rfl HO.out (Le.refl w) rfl rfl HB.out HX.out H1X.out (by first | omega | simp) (by omega) ?_;intro v' w4 h4 h5;have H4:=Aa h4;clear h4 h5)
    rw[HR.out]
    exact⟨v',rfl,by rw[HIN.out];exact H4.out.ownR HO.out HX.out,Gr.fpRow_trk H4.out.gr⟩
   ·obtain rfl:cap=xs.length:=by omega
    go_enter Tryz.func206,Tryz.ntmps206
    go_wp2_with (refine Br rfl FO (.tmp 23) (.tmp 24) rfl HO.out (Le.refl w) rfl rfl HB.out HX.out H1X.out (by first | omega | simp) (by omega) ?_;intro v' w4 h4 h5;have H4:=Aa h4;clear h4 h5)
    rw[HR.out]
    exact⟨v',rfl,by rw[HIN.out];exact H4.out.ownR HO.out HX.out,Gr.fpRow_trk H4.out.gr⟩
end Go.Proofs.YtmcndlofaanjiaaGreat
