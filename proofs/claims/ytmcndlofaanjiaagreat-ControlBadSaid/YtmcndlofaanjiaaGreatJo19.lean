/- Texts of one claim, laid together: QueC QueA -/
import Derived.Test.YtmcndlofaanjiaaGreatJo06
import Derived.Test.YtmcndlofaanjiaaGreatJo03
import Derived.Test.YtmcndlofaanjiaaGreatJo07
/- queue of louver/control.call: its functions. (Written by gen_queue.py.) -/
namespace Go.Proofs.YtmcndlofaanjiaaGreat
open Go.RowKit
set_option linter.unusedVariables false
set_option maxRecDepth 100000
set_option maxHeartbeats 8000000
section
variable {w:World} {Q A R f:Nat} {vs:List (List Value)}
theorem qcRoom (h:QAt 284 159 2 w Q A R f vs):Calls Tryz.prog 113 #[.pointer (some ⟨Q,0,none⟩)] w (Ax w (.int .i64 ((R:Int) - vs.length))):=by
 have c0:=h.c0
 have c2:=h.c2
 have q1:IntKind.i64.wrap ((R:Int) - vs.length)=(R:Int) - vs.length:=IntWalk.i64_in _ (by have:=h.nR;have:=h.R1;omega)
 clear h
 go_enter Tryz.func113,Tryz.ntmps113
 go_wp2_with fail
 go_quiet (fail)
 go_wp2_with fail
 go_ret
 exact⟨rfl,((Le.refl w).drewN _).out⟩
theorem qcLen (h:QAt 284 159 2 w Q A R f vs):Calls Tryz.prog 77 #[.pointer (some ⟨Q,0,none⟩)] w (Ax w (.int .i64 vs.length)):=by
 have c2:=h.c2
 clear h
 go_enter Tryz.func77,Tryz.ntmps77
 go_wp2_with fail
 go_ret
 exact⟨rfl,(Le.refl w).out⟩
theorem G0 {x:Value} (hQ:w.heap[Q]?=some (.cells #[.slice (some ⟨A,0,none⟩) R R,.int .i64 f,x] 284 (0,0))) (hf:f<R) (hR:R≤4096) (i:Nat) (hi:i≤R):Calls Tryz.prog 114 #[.pointer (some ⟨Q,0,none⟩),.int .i64 i] w (Ax w (.int .i64 ((f+i)%R:Nat))):=by
 have c0:w.cell? ⟨Q,0,none⟩=some (.slice (some ⟨A,0,none⟩) R R):=Ae hQ 0
 have c1:w.cell? ⟨Q,1,none⟩=some (.int .i64 f):=Ae hQ 1
 obtain⟨r,hr⟩:∃ r,r=(f+i)%R:=⟨_,rfl⟩
 rw[← hr]
 have hlt:r<R:=by rw[hr];exact Nat.mod_lt _ (by omega)
 have q1:IntKind.i64.wrap ((f:Int)+i)=((f+i:Nat):Int):=by rw[IntWalk.i64_in _ (by omega)];simp
 have q2:((f+i:Nat):Int).tmod (R:Int)=(r:Int):=by rw[hr,Int.tmod_eq_emod_of_nonneg (by omega)];simp
 have q3:IntKind.i64.wrap (r:Int)=(r:Int):=IntWalk.i64_in _ (by omega)
 have q4:((R:Int)==0)=false:=by rw[beq_eq_false_iff_ne];omega
 have q5:¬ (R:Int)=0:=by omega
 clear hQ hr
 generalize f+i=fi at *
 go_enter Tryz.func114,Tryz.ntmps114
 go_wp2_with fail
 go_quiet (fail)
 go_wp2_with fail
 go_ret
 exact⟨rfl,((Le.refl w).drewN _).out⟩
theorem qcPlace (h:QAt 284 159 2 w Q A R f vs) (i:Nat) (hi:i≤R):Calls Tryz.prog 114 #[.pointer (some ⟨Q,0,none⟩),.int .i64 i] w (Ax w (.int .i64 ((f+i)%R:Nat))):=G0 h.hQ h.fR h.R1 i hi
end
def qcPushP (w:World) (Q A R f:Nat) (vs:List (List Value)) (v:List Value) (e:Ending) (w':World):Prop :=
 e=.returned (.bool (decide (vs.length<R)))∧QAt 284 159 2 w' Q A R f (if vs.length<R then vs++[v] else vs)∧Fp (qS Q A) w w'
theorem qcPush {w:World} {Q A R f:Nat} {vs:List (List Value)} (h:QAt 284 159 2 w Q A R f vs) (m:Int) (A1:Option Addr) (n1 c1:Nat) :
  Calls Tryz.prog 54 #[.pointer (some ⟨Q,0,none⟩),.agg #[.int .i64 m,.slice A1 n1 c1]] w (qcPushP w Q A R f vs [.int .i64 m,.slice A1 n1 c1]):=by
 have HQ0:=Aa h
 have hR1:=h.R1
 have hnR:=h.nR
 have hfR:=h.fR
 clear h
 have LE:=Aa ((Le.refl w).alloc (.cells #[.int .i64 m,.slice A1 n1 c1] 159))
 have HX:=Aa (heap_alloc_new w (.cells #[.int .i64 m,.slice A1 n1 c1] 159))
 go_enter Tryz.func54,Tryz.ntmps54
 go_wp2_with fail
 generalize w.alloc (.cells #[.int .i64 m,.slice A1 n1 c1] 159)=w1 at *
 generalize w.heap.size=gx at HX ⊢
 refine (qcRoom (HQ0.out.le LE.out)).mono ?_
 rintro e w2 ⟨rfl,hb⟩
 have LE2:=Aa (LE.out.trans ⟨hb⟩)
 have HX2:=Aa ((Le.mk hb).heap HX.out)
 have HQ2:=Aa (HQ0.out.le LE2.out)
 clear hb LE HX
 by_cases hlt:vs.length<R
 ·have hz:((R:Int) - vs.length==0)=false:=by rw[beq_eq_false_iff_ne];omega
  obtain⟨p,hp⟩:∃ p,p=(f+vs.length)%R:=⟨_,rfl⟩
  have hpR:p<R:=by rw[hp];exact Nat.mod_lt _ (by omega)
  have hpI:(p:Int)<(R:Int):=by omega
  have hp0:(0:Int)≤(p:Int):=by omega
  have HPL:=Aa (fun W (hW:Le w2 W)=>qcPlace (HQ2.out.le hW) vs.length hnR)
  rw[← hp] at HPL
  have HP:=Aa hp
  clear hp
  go_upto_region 3 with fail
  refine' Aj 12 12 8 Le (Is _::Is _::Is _::Is _::Is _::Is _::Is _::Is _::Is _::Is _::Is _::Is _::[]) ([]::[0]::[1]::[2]::[]::[]::[5]::[6]::[7]::[4,8]::[]::[3,9]::[]) (by kernel_rfl) (by kernel_rfl) (by rfl) (by kernel_rfl) (by kernel_rfl) Le.refl (fun _ _ _ h h'=>h.trans h') ⟨St.is,St.is,St.is,St.is,St.is,St.is,St.is,St.is,St.is,St.is,St.is,St.is,trivial⟩ ?m3
  case m3 =>
   simp (maxSteps:=100000000) only [AR,Bv,AK,AC,An,AD,Am,Au,List.set_cons_succ,List.set_cons_zero,List.getElem?_cons_zero,List.getElem?_cons_succ,List.take_succ_cons,List.take_zero,List.drop_succ_cons,List.drop_zero,List.cons_append,List.nil_append,List.length_cons,List.length_nil,Nat.reduceAdd]
   intro x0 x1 x2 x3 x4 x5 x6 x7 x8 x9 x10 x11
   refine⟨⟨?_,?_,?_,?_,?_,?_,?_,?_,?_,?_,?_,?_,trivial⟩,?_⟩
   ·intro wo hw KQ hK;go_simp;exact hK _ _ .r .m
   ·intro wo hw h0 KQ hK;cases h0;go_simp;exact hK _ _ .r .m
   ·intro wo hw h1 KQ hK;cases h1;go_simp;exact hK _ _ .r .m
   ·intro wo hw h2 KQ hK;cases h2;have kk:=Af (hw.heap HQ2.out.hQ) 0 (.slice (some ⟨A,0,none⟩) R R) rfl wo (Le.refl _);go_simp;exact hK _ _ .r .m
   ·intro wo hw KQ hK;go_simp;exact hK _ _ .r .m
   ·intro wo hw KQ hK;go_simp;exact hK _ _ .r .m
   ·intro wo hw h5 KQ hK;cases h5;go_simp;exact hK _ _ .r .m
   ·intro wo hw h6 KQ hK;cases h6;go_simp;exact hK _ _ .r .m
   ·intro wo hw h7 KQ hK;cases h7;have kk:=Af (hw.heap HQ2.out.hQ) 2 (.int .i64 vs.length) rfl wo (Le.refl _);go_simp;exact hK _ _ .r .m
   ·intro wo hw h4 h8 KQ hK;cases h4;cases h8;go_simp;refine (HPL.out _ ((Le.refl w2).drew.trans hw)).mono ?_;rintro r w' ⟨rfl,hb⟩;exact hK _ _ (Le.mk hb) (Is.mk _ _)
   ·intro wo hw KQ hK;refine cast (if_pos (show Region.wanted _ _=true from rfl)).symm ?_;have hz:=(hw.heap HX2.out);refine Av 159 (.tmp 3) rfl (cs:=[.int .i64 m,.slice A1 n1 c1]) _ rfl Tryz.underlying159 rfl (by kernel_rfl) hz ?_;exact hK _ _ .r .m
   ·intro wo hw h3 h9 KQ hK;cases h3;cases h9;go_simp;exact hK _ _ .r .m
   ·intro wz hz h0 h1 h2 h3 h4 h5 h6 h7 h8 h9 h10 h11;cases h0;cases h1;cases h2;cases h3;cases h4;cases h5;cases h6;cases h7;cases h8;cases h9;cases h10;cases h11;skip
    have HQ3:=Aa (HQ2.out.le ((Le.refl w2).drew.trans hz))
    have LE3:=Aa (LE2.out.drew.trans hz)
    clear HQ2 LE2 HPL HX2
    obtain⟨pre,old,post,hpre,hold,hrow⟩:=HQ3.out.row p hpR
    have HROW:=Aa (And.intro hpre (And.intro hold hrow))
    clear hpre hold hrow
    have q1:IntKind.i64.wrap ((vs.length:Int)+1)=(vs.length:Int)+1:=IntWalk.i64_in _ (by omega)
    go_wp2_with (refine Bc rfl 159 (.tmp 19) (.tmp 18) rfl pre (cs:=[.int .i64 m,.slice A1 n1 c1]) (old:=old) (post:=post) (by rw[HROW.out.1];rfl) rfl (by kernel_rfl) (by simp[Value.oneCell']) (by have:=HROW.out.2.2;rw[List.append_assoc] at this;exact this) HROW.out.2.1 ?_;intro w4 h4 hg4;have H4:=Aa h4;have HG4:=Aa hg4;have HH4:=Aa (Ai hg4 HQ3.out.hQ (by intro e;injection e with e;exact HQ3.out.ne e));have z4:=Ae HH4.out 2;have z5:=Ay HH4.out 2;clear h4 hg4)
    go_ret
    have hQ5:=AG (i:=2) (.int .i64 ((vs.length:Int)+1)) HH4.out
    have hA5:=AL (i:=2) (.int .i64 ((vs.length:Int)+1)) H4.out HQ3.out.ne
    refine⟨by rw[decide_eq_true hlt];rfl,?_,((Fp.of_le LE3.out).trans (Fp.of_grown HG4.out (.inr rfl))).setCell (.inl rfl) _⟩
    rw[if_pos hlt]
    exact HQ3.out.push hlt rfl (by rw[← HP.out];exact HROW.out.1) HROW.out.2.1 (by simpa using HROW.out.2.2) (by simpa using hA5) hQ5
 ·have hz:((R:Int) - vs.length==0)=true:=by rw[beq_iff_eq];omega
  go_wp2_with fail
  go_ret
  refine⟨by rw[decide_eq_false hlt];rfl,?_,Fp.of_le LE2.out⟩
  rw[if_neg hlt]
  exact HQ2.out
theorem qcPeek0 {w:World} {Q A R f:Nat} (h:QAt 284 159 2 w Q A R f []):Calls Tryz.prog 115 #[.pointer (some ⟨Q,0,none⟩)] w (Ax w (.tuple #[.agg #[.int .i64 0,.slice none 0 0],.bool false])):=by
 have HQ0:=Aa h
 clear h
 have LE:=Aa ((Le.refl w).alloc (.cells #[.int .i64 0,.slice none 0 0] 159))
 have HX:=Aa (heap_alloc_new w (.cells #[.int .i64 0,.slice none 0 0] 159))
 go_enter Tryz.func115,Tryz.ntmps115
 go_wp2_with fail
 generalize w.alloc (.cells #[.int .i64 0,.slice none 0 0] 159)=w1 at *
 have hgs:=Ah HX.out
 refine (qcLen (HQ0.out.le LE.out)).mono ?_
 rintro e w2 ⟨rfl,hb⟩
 have LE2:=Aa (LE.out.trans ⟨hb⟩)
 have HX2:=Aa ((Le.mk hb).heap HX.out)
 clear hb
 simp only[List.length_nil]
 go_wp2_with (first | (refine Al rfl 159 (.tmp 4) rfl (cs:=[.int .i64 0,.slice none 0 0]) _ rfl Tryz.underlying159 rfl (by kernel_rfl) (heap_alloc_new _ _) ?_) | (refine Ak rfl 159 (.tmp 2) (.tmp 8) (cs:=[.int .i64 0,.slice none 0 0]) (old:=[.int .i64 0,.slice none 0 0]) rfl rfl rfl (by kernel_rfl) (by simp[Value.oneCell']) (heap_alloc HX2.out) rfl ?_;intro w4 h4 hg4;have H4:=Aa h4;have HB4:=Aa (AT (LE2.out.alloc _).out hg4 (Nat.le_refl _) (LE2.out.alloc _).size);clear h4 hg4))
 refine BN Tryz.results115 (Bb.mk' rfl H4.out Tryz.underlying159 rfl (by kernel_rfl)) rfl ?_
 exact⟨rfl,HB4.out⟩
theorem qcPeek1 {w:World} {Q A R f:Nat} {vs:List (List Value)} (va vb:Value) (h:QAt 284 159 2 w Q A R f ([va,vb]::vs)) (h1:∀ u∈[va,vb],u.oneCell'=true):Calls Tryz.prog 115 #[.pointer (some ⟨Q,0,none⟩)] w (Ax w (.tuple #[.agg #[va,vb],.bool true])):=by
 have HQ0:=Aa h
 have H1:=Aa h1
 have hfR:=h.fR
 have hnR:=h.nR
 have hR1:=h.R1
 have hfI:(f:Int)<(R:Int):=by omega
 have hf0:(0:Int)≤(f:Int):=by omega
 clear h h1
 have LE:=Aa ((Le.refl w).alloc (.cells #[.int .i64 0,.slice none 0 0] 159))
 have HX:=Aa (heap_alloc_new w (.cells #[.int .i64 0,.slice none 0 0] 159))
 go_enter Tryz.func115,Tryz.ntmps115
 go_wp2_with fail
 generalize w.alloc (.cells #[.int .i64 0,.slice none 0 0] 159)=w1 at *
 have hgs:=Ah HX.out
 refine (qcLen (HQ0.out.le LE.out)).mono ?_
 rintro e w2 ⟨rfl,hb⟩
 have LE2:=Aa (LE.out.trans ⟨hb⟩)
 have HX2:=Aa ((Le.mk hb).heap HX.out)
 have HQ2:=Aa (HQ0.out.le LE2.out)
 clear hb HQ0
 have hz:((List.length ([va,vb]::vs):Int)==0)=false:=by rw[beq_eq_false_iff_ne];simp;omega
 go_upto_region 4 with fail
 refine' Aj 10 10 9 Le (Is _::Is _::Is _::Is _::Is _::Is _::Is _::Is _::Is _::Is _::[]) ([]::[0]::[1]::[2]::[]::[4]::[5]::[6]::[3,7]::[8]::[]) (by kernel_rfl) (by kernel_rfl) (by rfl) (by kernel_rfl) (by kernel_rfl) Le.refl (fun _ _ _ h h'=>h.trans h') ⟨St.is,St.is,St.is,St.is,St.is,St.is,St.is,St.is,St.is,St.is,trivial⟩ ?m4
 case m4 =>
  simp (maxSteps:=100000000) only [AR,Bv,AK,AC,An,AD,Am,Au,List.set_cons_succ,List.set_cons_zero,List.getElem?_cons_zero,List.getElem?_cons_succ,List.take_succ_cons,List.take_zero,List.drop_succ_cons,List.drop_zero,List.cons_append,List.nil_append,List.length_cons,List.length_nil,Nat.reduceAdd]
  intro x0 x1 x2 x3 x4 x5 x6 x7 x8 x9
  refine⟨⟨?_,?_,?_,?_,?_,?_,?_,?_,?_,?_,trivial⟩,?_⟩
  ·intro wo hw KQ hK;go_simp;exact hK _ _ .r .m
  ·intro wo hw h0 KQ hK;cases h0;go_simp;exact hK _ _ .r .m
  ·intro wo hw h1 KQ hK;cases h1;go_simp;exact hK _ _ .r .m
  ·intro wo hw h2 KQ hK;cases h2;have kk:=Af (hw.heap HQ2.out.hQ) 0 (.slice (some ⟨A,0,none⟩) R R) rfl wo (Le.refl _);go_simp;exact hK _ _ .r .m
  ·intro wo hw KQ hK;go_simp;exact hK _ _ .r .m
  ·intro wo hw h4 KQ hK;cases h4;go_simp;exact hK _ _ .r .m
  ·intro wo hw h5 KQ hK;cases h5;go_simp;exact hK _ _ .r .m
  ·intro wo hw h6 KQ hK;cases h6;have kk:=Af (hw.heap HQ2.out.hQ) 1 (.int .i64 f) rfl wo (Le.refl _);go_simp;exact hK _ _ .r .m
  ·intro wo hw h3 h7 KQ hK;cases h3;cases h7;go_simp;exact hK _ _ .r .m
  ·intro wo hw h8 KQ hK;cases h8;refine cast (if_pos (show Region.wanted _ _=true from rfl)).symm ?_;refine wp_load_mid 159 (.tmp 17) rfl A (f*2) rfl [va,vb] _ ((HQ2.out.le ((Le.refl w2).drew.trans hw)).first) Tryz.underlying159 rfl (by kernel_rfl) ?_;exact hK _ _ .r .m
  ·intro wz hz h0 h1 h2 h3 h4 h5 h6 h7 h8 h9;cases h0;cases h1;cases h2;cases h3;cases h4;cases h5;cases h6;cases h7;cases h8;cases h9;skip
   have LE3:=Aa (LE2.out.drew.trans hz)
   have HX3:=Aa (((Le.refl w2).drew.trans hz).heap HX2.out)
   go_wp2_with (refine Ak rfl 159 (.tmp 2) (.tmp 18) (cs:=[va,vb]) (old:=[.int .i64 0,.slice none 0 0]) rfl rfl rfl (by kernel_rfl) H1.out HX3.out rfl ?_;intro w4 h4 hg4;have H4:=Aa h4;have HB4:=Aa (AT LE3.out.out hg4 (Nat.le_refl _) LE3.out.size);clear h4 hg4)
   refine BN Tryz.results115 (Bb.mk' rfl H4.out Tryz.underlying159 rfl (by kernel_rfl)) rfl ?_
   exact⟨rfl,HB4.out⟩
theorem qcPop0 {w:World} {Q A R f:Nat} (h:QAt 284 159 2 w Q A R f []):Calls Tryz.prog 56 #[.pointer (some ⟨Q,0,none⟩)] w (Ax w (.tuple #[.agg #[.int .i64 0,.slice none 0 0],.bool false])):=by
 have HQ0:=Aa h
 clear h
 have LE:=Aa ((Le.refl w).alloc (.cells #[.int .i64 0,.slice none 0 0] 159))
 have HX:=Aa (heap_alloc_new w (.cells #[.int .i64 0,.slice none 0 0] 159))
 go_enter Tryz.func56,Tryz.ntmps56
 go_wp2_with fail
 generalize w.alloc (.cells #[.int .i64 0,.slice none 0 0] 159)=w1 at *
 have hgs:=Ah HX.out
 refine (qcPeek0 (HQ0.out.le LE.out)).mono ?_
 rintro e w2 ⟨rfl,hb⟩
 have LE2:=Aa (LE.out.trans ⟨hb⟩)
 have HX2:=Aa ((Le.mk hb).heap HX.out)
 clear hb
 go_wp2_with (first | (refine Al rfl 159 (.tmp 4) rfl (cs:=[.int .i64 0,.slice none 0 0]) _ rfl Tryz.underlying159 rfl (by kernel_rfl) (heap_alloc_new _ _) ?_) | (refine Ak rfl 159 (.tmp 2) (.tmp 35) (cs:=[.int .i64 0,.slice none 0 0]) (old:=[.int .i64 0,.slice none 0 0]) rfl rfl rfl (by kernel_rfl) (by simp[Value.oneCell']) (heap_alloc HX2.out) rfl ?_;intro w4 h4 hg4;have H4:=Aa h4;have HB4:=Aa (AT (LE2.out.alloc _).out hg4 (Nat.le_refl _) (LE2.out.alloc _).size);clear h4 hg4))
 refine BN Tryz.results56 (Bb.mk' rfl H4.out Tryz.underlying159 rfl (by kernel_rfl)) rfl ?_
 exact⟨rfl,HB4.out⟩
def qcPopP (w:World) (Q A R f:Nat) (vs:List (List Value)) (v:Value) (e:Ending) (w':World):Prop :=
 e=.returned (.tuple #[v,.bool true])∧QAt 284 159 2 w' Q A R ((f+1)%R) vs∧Fp (qS Q A) w w'
theorem qcPop1 {w:World} {Q A R f:Nat} {vs:List (List Value)} (va vb:Value) (h:QAt 284 159 2 w Q A R f ([va,vb]::vs)) (h1:∀ u∈[va,vb],u.oneCell'=true):Calls Tryz.prog 56 #[.pointer (some ⟨Q,0,none⟩)] w (qcPopP w Q A R f vs (.agg #[va,vb])):=by
 have HQ0:=Aa h
 have H1:=Aa h1
 have hfR:=h.fR
 have hnR:=h.nR
 have hR1:=h.R1
 have hfI:(f:Int)<(R:Int):=by omega
 have hf0:(0:Int)≤(f:Int):=by omega
 have hQlt:=Ah h.hQ
 have hAQ:=h.ne
 have hAlt:A<w.heap.size:=by obtain⟨cur,hA,_⟩:=h.hA;exact Ah hA
 clear h h1
 have LE:=Aa ((Le.refl w).alloc (.cells #[.int .i64 0,.slice none 0 0] 159))
 have HX:=Aa (heap_alloc_new w (.cells #[.int .i64 0,.slice none 0 0] 159))
 go_enter Tryz.func56,Tryz.ntmps56
 go_wp2_with fail
 generalize w.alloc (.cells #[.int .i64 0,.slice none 0 0] 159)=w1 at *
 have hgs:=Ah HX.out
 refine (qcPeek1 va vb (HQ0.out.le LE.out) H1.out).mono ?_
 rintro e w2 ⟨rfl,hb⟩
 have LE2:=Aa (LE.out.trans ⟨hb⟩)
 have HX2:=Aa ((Le.mk hb).heap HX.out)
 have hsz2:=LE2.out.size
 have HQ2:=Aa (HQ0.out.le LE2.out)
 have HF2:=Aa (Fp.of_le (S:=qS Q A) LE2.out)
 clear hb HQ0
 go_upto_region 4 with (first | (refine Ak rfl 159 (.tmp 4) (.tmp 10) (cs:=[va,vb]) rfl rfl rfl (by kernel_rfl) H1.out (heap_alloc_new _ _) rfl ?_;intro w3 hn hg;have hbx:=((Le.refl w2).alloc _).box1 hg (Nat.le_refl _);have H2_3:=Aa ((hbx).heap HX2.out);have HQ_3:=Aa (HQ2.out.le hbx);have HF_3:=Aa (HF2.out.trans (Fp.of_le hbx));have LE_3:=Aa (Le.trans LE2.out hbx);have H4_3:=Aa (hn);have hs1:=Ah H4_3.out;clear HX2 HQ2 HF2 LE2;clear hn hg hbx))
 have H2_4:=Aa (show (World.alloc w3 (.cells #[.int .i64 0,.slice none 0 0] 159)).heap[w.heap.size]?=some (.cells #[.int .i64 0,.slice none 0 0] 159 (0,0)) from heap_alloc H2_3.out)
 have H4_4:=Aa (show (World.alloc w3 (.cells #[.int .i64 0,.slice none 0 0] 159)).heap[w2.heap.size]?=some (.cells #[va,vb] 159 (0,0)) from heap_alloc H4_3.out)
 have H6_4:=Aa (show (World.alloc w3 (.cells #[.int .i64 0,.slice none 0 0] 159)).heap[w3.heap.size]?=some (.cells #[.int .i64 0,.slice none 0 0] 159 (0,0)) from heap_alloc_new _ _)
 have HQ_4:=Aa (HQ_3.out.le ((Le.refl w3).alloc (.cells #[.int .i64 0,.slice none 0 0] 159)))
 have HF_4:=Aa (HF_3.out.trans (Fp.of_le ((Le.refl w3).alloc (.cells #[.int .i64 0,.slice none 0 0] 159))))
 have LE_4:=Aa (show Le w (World.alloc w3 (.cells #[.int .i64 0,.slice none 0 0] 159)) from LE_3.out.alloc _)
 clear H2_3 H4_3 HQ_3 HF_3 LE_3
 generalize (World.alloc w3 (.cells #[.int .i64 0,.slice none 0 0] 159))=w5 at *
 have hs2:=Ah H6_4.out
 refine' Aj 10 10 13 Le (Is _::Is _::Is _::Is _::Is _::Is _::Is _::Is _::Is _::Is _::[]) ([]::[0]::[1]::[2]::[]::[4]::[5]::[6]::[]::[3,7]::[]) (by kernel_rfl) (by kernel_rfl) (by rfl) (by kernel_rfl) (by kernel_rfl) Le.refl (fun _ _ _ h h'=>h.trans h') ⟨St.is,St.is,St.is,St.is,St.is,St.is,St.is,St.is,St.is,St.is,trivial⟩ ?m4
 case m4 =>
  simp (maxSteps:=100000000) only [AR,Bv,AK,AC,An,AD,Am,Au,List.set_cons_succ,List.set_cons_zero,List.getElem?_cons_zero,List.getElem?_cons_succ,List.take_succ_cons,List.take_zero,List.drop_succ_cons,List.drop_zero,List.cons_append,List.nil_append,List.length_cons,List.length_nil,Nat.reduceAdd]
  intro x0 x1 x2 x3 x4 x5 x6 x7 x8 x9
  refine⟨⟨?_,?_,?_,?_,?_,?_,?_,?_,?_,?_,trivial⟩,?_⟩
  ·intro wo hw KQ hK;go_simp;exact hK _ _ .r .m
  ·intro wo hw h0 KQ hK;cases h0;go_simp;exact hK _ _ .r .m
  ·intro wo hw h1 KQ hK;cases h1;go_simp;exact hK _ _ .r .m
  ·intro wo hw h2 KQ hK;cases h2;have kk:=Af (hw.heap HQ_4.out.hQ) 0 (.slice (some ⟨A,0,none⟩) R R) rfl wo (Le.refl _);go_simp;exact hK _ _ .r .m
  ·intro wo hw KQ hK;go_simp;exact hK _ _ .r .m
  ·intro wo hw h4 KQ hK;cases h4;go_simp;exact hK _ _ .r .m
  ·intro wo hw h5 KQ hK;cases h5;go_simp;exact hK _ _ .r .m
  ·intro wo hw h6 KQ hK;cases h6;have kk:=Af (hw.heap HQ_4.out.hQ) 1 (.int .i64 f) rfl wo (Le.refl _);go_simp;exact hK _ _ .r .m
  ·intro wo hw KQ hK;refine cast (if_pos (show Region.wanted _ _=true from rfl)).symm ?_;have hz:=(hw.heap H6_4.out);refine Av 159 (.tmp 6) rfl (cs:=[.int .i64 0,.slice none 0 0]) _ rfl Tryz.underlying159 rfl (by kernel_rfl) hz ?_;exact hK _ _ .r .m
  ·intro wo hw h3 h7 KQ hK;cases h3;cases h7;go_simp;exact hK _ _ .r .m
  ·intro wz hz h0 h1 h2 h3 h4 h5 h6 h7 h8 h9;cases h0;cases h1;cases h2;cases h3;cases h4;cases h5;cases h6;cases h7;cases h8;cases h9;skip
   have H2_5:=Aa ((((Le.refl w5).drew.trans hz)).heap H2_4.out)
   have H4_5:=Aa ((((Le.refl w5).drew.trans hz)).heap H4_4.out)
   have H6_5:=Aa ((((Le.refl w5).drew.trans hz)).heap H6_4.out)
   have HQ_5:=Aa (HQ_4.out.le ((Le.refl w5).drew.trans hz))
   have HF_5:=Aa (HF_4.out.trans (Fp.of_le ((Le.refl w5).drew.trans hz)))
   have LE_5:=Aa (Le.trans LE_4.out ((Le.refl w5).drew.trans hz))
   have hs3:=Ah H6_5.out
   clear H2_4 H4_4 H6_4 HQ_4 HF_4 LE_4
   obtain⟨pre,old,post,hpre,hold,hrow⟩:=HQ_5.out.row f hfR
   have HROW:=Aa (And.intro hpre (And.intro hold hrow))
   have HQC:=Aa (HQ_5.out.hQ)
   clear hpre hold hrow
   have hszz:=LE_5.out.size
   clear LE_5
   go_upto_region 5 with (refine Bc rfl 159 (.tmp 22) (.tmp 21) rfl pre (cs:=[.int .i64 0,.slice none 0 0]) (old:=old) (post:=post) (by rw[HROW.out.1];rfl) rfl (by kernel_rfl) (by simp[Value.oneCell']) (by have:=HROW.out.2.2;rw[List.append_assoc] at this;exact this) HROW.out.2.1 ?_;intro w4 hn hg;have HA4:=Aa hn;have H2_6:=Aa (Ai hg H2_5.out (by simp<;>omega));have H4_6:=Aa (Ai hg H4_5.out (by simp<;>omega));have H6_6:=Aa (Ai hg H6_5.out (by simp<;>omega));have HQ_6:=Aa (Ai hg HQC.out (by simp<;>omega));have HF_6:=Aa (HF_5.out.trans (Fp.of_grown hg (.inr rfl)));clear H2_5 H4_5 H6_5 HQC HF_5 hn hg)
   obtain⟨fn,hfn⟩:∃ fn,fn=(f+1)%R:=⟨_,rfl⟩
   have HPL:=Aa (fun W hQ=>G0 (w:=W) (Q:=Q) (A:=A) (x:=.int .i64 (([va,vb]::vs).length:Nat)) hQ hfR hR1 1 (by simp at hnR;omega))
   rw[← hfn] at HPL
   have HFN:=Aa hfn
   clear hfn
   go_wp2_with fail
   refine (HPL.out _ HQ_6.out).mono ?_
   rintro e w6 ⟨rfl,hb⟩
   have H2_7:=Aa ((Le.mk hb).heap H2_6.out)
   have H4_7:=Aa ((Le.mk hb).heap H4_6.out)
   have H6_7:=Aa ((Le.mk hb).heap H6_6.out)
   have HQ_7:=Aa ((Le.mk hb).heap HQ_6.out)
   have HF_7:=Aa (HF_6.out.trans (Fp.of_le (Le.mk hb)))
   have HA4_7:=Aa ((Le.mk hb).heap HA4.out)
   clear H2_6 H4_6 H6_6 HQ_6 HF_6 HA4 hb HPL
   have z1_7:=Af HQ_7.out 1 (.int .i64 f) rfl _ (Le.refl _)
   have y1_7:=Ay HQ_7.out 1
   go_upto_region 6 with fail
   clear z1_7 y1_7
   have H2_8:=Aa (show (World.setCell w6 ⟨Q,1,none⟩ (.int .i64 fn)).heap[w.heap.size]?=some (.cells #[.int .i64 0,.slice none 0 0] 159 (0,0)) from AL (i:=1) (.int .i64 fn) H2_7.out (by simp<;>omega))
   have H4_8:=Aa (show (World.setCell w6 ⟨Q,1,none⟩ (.int .i64 fn)).heap[w2.heap.size]?=some (.cells #[va,vb] 159 (0,0)) from AL (i:=1) (.int .i64 fn) H4_7.out (by simp<;>omega))
   have H6_8:=Aa (show (World.setCell w6 ⟨Q,1,none⟩ (.int .i64 fn)).heap[w3.heap.size]?=some (.cells #[.int .i64 0,.slice none 0 0] 159 (0,0)) from AL (i:=1) (.int .i64 fn) H6_7.out (by simp<;>omega))
   have HQ_8:=Aa (show (World.setCell w6 ⟨Q,1,none⟩ (.int .i64 fn)).heap[Q]?=some (.cells #[.slice (some ⟨A,0,none⟩) R R,.int .i64 fn,.int .i64 (([va,vb]::vs).length:Nat)] 284 (0,0)) from AG (i:=1) (.int .i64 fn) HQ_7.out)
   have HF_8:=Aa (HF_7.out.setCell (p:=⟨Q,1,none⟩) (.inl rfl) (.int .i64 fn))
   have HA4_8:=Aa (AL (i:=1) (.int .i64 fn) HA4_7.out hAQ)
   clear H2_7 H4_7 H6_7 HQ_7 HF_7 HA4_7 
   generalize (World.setCell w6 ⟨Q,1,none⟩ (.int .i64 fn))=w7 at *
   simp only[List.length_cons] at *
   have q1:IntKind.i64.wrap (((vs.length+1:Nat):Int) - 1)=vs.length:=by rw[IntWalk.i64_in _ (by omega)];omega
   have z2_8:=Af HQ_8.out 2 (.int .i64 ((vs.length+1:Nat):Int)) rfl _ (Le.refl _)
   have y2_8:=Ay HQ_8.out 2
   go_upto_region 7 with fail
   clear z2_8 y2_8
   have H2_9:=Aa (show (World.setCell w7 ⟨Q,2,none⟩ (.int .i64 vs.length)).heap[w.heap.size]?=some (.cells #[.int .i64 0,.slice none 0 0] 159 (0,0)) from AL (i:=2) (.int .i64 vs.length) H2_8.out (by simp<;>omega))
   have H4_9:=Aa (show (World.setCell w7 ⟨Q,2,none⟩ (.int .i64 vs.length)).heap[w2.heap.size]?=some (.cells #[va,vb] 159 (0,0)) from AL (i:=2) (.int .i64 vs.length) H4_8.out (by simp<;>omega))
   have H6_9:=Aa (show (World.setCell w7 ⟨Q,2,none⟩ (.int .i64 vs.length)).heap[w3.heap.size]?=some (.cells #[.int .i64 0,.slice none 0 0] 159 (0,0)) from AL (i:=2) (.int .i64 vs.length) H6_8.out (by simp<;>omega))
   have HQ_9:=Aa (show (World.setCell w7 ⟨Q,2,none⟩ (.int .i64 vs.length)).heap[Q]?=some (.cells #[.slice (some ⟨A,0,none⟩) R R,.int .i64 fn,.int .i64 vs.length] 284 (0,0)) from AG (i:=2) (.int .i64 vs.length) HQ_8.out)
   have HF_9:=Aa (HF_8.out.setCell (p:=⟨Q,2,none⟩) (.inl rfl) (.int .i64 vs.length))
   have HA4_9:=Aa (AL (i:=2) (.int .i64 vs.length) HA4_8.out hAQ)
   clear H2_8 H4_8 H6_8 HQ_8 HF_8 HA4_8 
   generalize (World.setCell w7 ⟨Q,2,none⟩ (.int .i64 vs.length))=w8 at *
   go_wp2_with (first | (refine Al rfl 159 (.tmp 4) rfl (cs:=[va,vb]) _ rfl Tryz.underlying159 rfl (by kernel_rfl) H4_9.out ?_) | (refine Ak rfl 159 (.tmp 2) (.tmp 35) (cs:=[va,vb]) (old:=[.int .i64 0,.slice none 0 0]) rfl rfl rfl (by kernel_rfl) H1.out H2_9.out rfl ?_;intro w9 hn hg;have H29:=Aa hn;have HQ9:=Aa (Ai hg HQ_9.out (by simp<;>omega));have HA9:=Aa (Ai hg HA4_9.out (by simp<;>omega));have HF9:=Aa (HF_9.out.fresh hg (Nat.le_refl _));clear hn hg))
   refine BN Tryz.results56 (Bb.mk' rfl H29.out Tryz.underlying159 rfl (by kernel_rfl)) rfl ?_
   refine⟨rfl,?_,HF9.out⟩
   exact HQ_5.out.pop (z:=[.int .i64 0,.slice none 0 0]) rfl HROW.out.1 HROW.out.2.1 HROW.out.2.2 (by have:=HA9.out;rw[List.append_assoc];exact this) (by rw[← HFN.out];exact HQ9.out)
section
variable {w:World} {Q A R f:Nat} {vs:List (List Value)}
theorem qaRoom (h:QAt 356 271 2 w Q A R f vs):Calls Tryz.prog 181 #[.pointer (some ⟨Q,0,none⟩)] w (Ax w (.int .i64 ((R:Int) - vs.length))):=by
 have c0:=h.c0
 have c2:=h.c2
 have q1:IntKind.i64.wrap ((R:Int) - vs.length)=(R:Int) - vs.length:=IntWalk.i64_in _ (by have:=h.nR;have:=h.R1;omega)
 clear h
 go_enter Tryz.func181,Tryz.ntmps181
 go_wp2_with fail
 go_quiet (fail)
 go_wp2_with fail
 go_ret
 exact⟨rfl,((Le.refl w).drewN _).out⟩
theorem qaLen (h:QAt 356 271 2 w Q A R f vs):Calls Tryz.prog 127 #[.pointer (some ⟨Q,0,none⟩)] w (Ax w (.int .i64 vs.length)):=by
 have c2:=h.c2
 clear h
 go_enter Tryz.func127,Tryz.ntmps127
 go_wp2_with fail
 go_ret
 exact⟨rfl,(Le.refl w).out⟩
theorem GY {x:Value} (hQ:w.heap[Q]?=some (.cells #[.slice (some ⟨A,0,none⟩) R R,.int .i64 f,x] 356 (0,0))) (hf:f<R) (hR:R≤4096) (i:Nat) (hi:i≤R):Calls Tryz.prog 182 #[.pointer (some ⟨Q,0,none⟩),.int .i64 i] w (Ax w (.int .i64 ((f+i)%R:Nat))):=by
 have c0:w.cell? ⟨Q,0,none⟩=some (.slice (some ⟨A,0,none⟩) R R):=Ae hQ 0
 have c1:w.cell? ⟨Q,1,none⟩=some (.int .i64 f):=Ae hQ 1
 obtain⟨r,hr⟩:∃ r,r=(f+i)%R:=⟨_,rfl⟩
 rw[← hr]
 have hlt:r<R:=by rw[hr];exact Nat.mod_lt _ (by omega)
 have q1:IntKind.i64.wrap ((f:Int)+i)=((f+i:Nat):Int):=by rw[IntWalk.i64_in _ (by omega)];simp
 have q2:((f+i:Nat):Int).tmod (R:Int)=(r:Int):=by rw[hr,Int.tmod_eq_emod_of_nonneg (by omega)];simp
 have q3:IntKind.i64.wrap (r:Int)=(r:Int):=IntWalk.i64_in _ (by omega)
 have q4:((R:Int)==0)=false:=by rw[beq_eq_false_iff_ne];omega
 have q5:¬ (R:Int)=0:=by omega
 clear hQ hr
 generalize f+i=fi at *
 go_enter Tryz.func182,Tryz.ntmps182
 go_wp2_with fail
 go_quiet (fail)
 go_wp2_with fail
 go_ret
 exact⟨rfl,((Le.refl w).drewN _).out⟩
theorem qaPlace (h:QAt 356 271 2 w Q A R f vs) (i:Nat) (hi:i≤R):Calls Tryz.prog 182 #[.pointer (some ⟨Q,0,none⟩),.int .i64 i] w (Ax w (.int .i64 ((f+i)%R:Nat))):=GY h.hQ h.fR h.R1 i hi
end
def qaPushP (w:World) (Q A R f:Nat) (vs:List (List Value)) (v:List Value) (e:Ending) (w':World):Prop :=
 e=.returned (.bool (decide (vs.length<R)))∧QAt 356 271 2 w' Q A R f (if vs.length<R then vs++[v] else vs)∧Fp (qS Q A) w w'
theorem qaPush {w:World} {Q A R f:Nat} {vs:List (List Value)} (h:QAt 356 271 2 w Q A R f vs) (m:Int) (ep:Nat) :
  Calls Tryz.prog 131 #[.pointer (some ⟨Q,0,none⟩),.agg #[.int .i64 m,.int .u64 ep]] w (qaPushP w Q A R f vs [.int .i64 m,.int .u64 ep]):=by
 have HQ0:=Aa h
 have hR1:=h.R1
 have hnR:=h.nR
 have hfR:=h.fR
 clear h
 have LE:=Aa ((Le.refl w).alloc (.cells #[.int .i64 m,.int .u64 ep] 271))
 have HX:=Aa (heap_alloc_new w (.cells #[.int .i64 m,.int .u64 ep] 271))
 go_enter Tryz.func131,Tryz.ntmps131
 go_wp2_with fail
 generalize w.alloc (.cells #[.int .i64 m,.int .u64 ep] 271)=w1 at *
 generalize w.heap.size=gx at HX ⊢
 refine (qaRoom (HQ0.out.le LE.out)).mono ?_
 rintro e w2 ⟨rfl,hb⟩
 have LE2:=Aa (LE.out.trans ⟨hb⟩)
 have HX2:=Aa ((Le.mk hb).heap HX.out)
 have HQ2:=Aa (HQ0.out.le LE2.out)
 clear hb LE HX
 by_cases hlt:vs.length<R
 ·have hz:((R:Int) - vs.length==0)=false:=by rw[beq_eq_false_iff_ne];omega
  obtain⟨p,hp⟩:∃ p,p=(f+vs.length)%R:=⟨_,rfl⟩
  have hpR:p<R:=by rw[hp];exact Nat.mod_lt _ (by omega)
  have hpI:(p:Int)<(R:Int):=by omega
  have hp0:(0:Int)≤(p:Int):=by omega
  have HPL:=Aa (fun W (hW:Le w2 W)=>qaPlace (HQ2.out.le hW) vs.length hnR)
  rw[← hp] at HPL
  have HP:=Aa hp
  clear hp
  go_upto_region 3 with fail
  refine' Aj 12 12 8 Le (Is _::Is _::Is _::Is _::Is _::Is _::Is _::Is _::Is _::Is _::Is _::Is _::[]) ([]::[0]::[1]::[2]::[]::[]::[5]::[6]::[7]::[4,8]::[]::[3,9]::[]) (by kernel_rfl) (by kernel_rfl) (by rfl) (by kernel_rfl) (by kernel_rfl) Le.refl (fun _ _ _ h h'=>h.trans h') ⟨St.is,St.is,St.is,St.is,St.is,St.is,St.is,St.is,St.is,St.is,St.is,St.is,trivial⟩ ?m3
  case m3 =>
   simp (maxSteps:=100000000) only [AR,Bv,AK,AC,An,AD,Am,Au,List.set_cons_succ,List.set_cons_zero,List.getElem?_cons_zero,List.getElem?_cons_succ,List.take_succ_cons,List.take_zero,List.drop_succ_cons,List.drop_zero,List.cons_append,List.nil_append,List.length_cons,List.length_nil,Nat.reduceAdd]
   intro x0 x1 x2 x3 x4 x5 x6 x7 x8 x9 x10 x11
   refine⟨⟨?_,?_,?_,?_,?_,?_,?_,?_,?_,?_,?_,?_,trivial⟩,?_⟩
   ·intro wo hw KQ hK;go_simp;exact hK _ _ .r .m
   ·intro wo hw h0 KQ hK;cases h0;go_simp;exact hK _ _ .r .m
   ·intro wo hw h1 KQ hK;cases h1;go_simp;exact hK _ _ .r .m
   ·intro wo hw h2 KQ hK;cases h2;have kk:=Af (hw.heap HQ2.out.hQ) 0 (.slice (some ⟨A,0,none⟩) R R) rfl wo (Le.refl _);go_simp;exact hK _ _ .r .m
   ·intro wo hw KQ hK;go_simp;exact hK _ _ .r .m
   ·intro wo hw KQ hK;go_simp;exact hK _ _ .r .m
   ·intro wo hw h5 KQ hK;cases h5;go_simp;exact hK _ _ .r .m
   ·intro wo hw h6 KQ hK;cases h6;go_simp;exact hK _ _ .r .m
   ·intro wo hw h7 KQ hK;cases h7;have kk:=Af (hw.heap HQ2.out.hQ) 2 (.int .i64 vs.length) rfl wo (Le.refl _);go_simp;exact hK _ _ .r .m
   ·intro wo hw h4 h8 KQ hK;cases h4;cases h8;go_simp;refine (HPL.out _ ((Le.refl w2).drew.trans hw)).mono ?_;rintro r w' ⟨rfl,hb⟩;exact hK _ _ (Le.mk hb) (Is.mk _ _)
   ·intro wo hw KQ hK;refine cast (if_pos (show Region.wanted _ _=true from rfl)).symm ?_;have hz:=(hw.heap HX2.out);refine Av 271 (.tmp 3) rfl (cs:=[.int .i64 m,.int .u64 ep]) _ rfl Tryz.underlying271 rfl (by kernel_rfl) hz ?_;exact hK _ _ .r .m
   ·intro wo hw h3 h9 KQ hK;cases h3;cases h9;go_simp;exact hK _ _ .r .m
   ·intro wz hz h0 h1 h2 h3 h4 h5 h6 h7 h8 h9 h10 h11;cases h0;cases h1;cases h2;cases h3;cases h4;cases h5;cases h6;cases h7;cases h8;cases h9;cases h10;cases h11;skip
    have HQ3:=Aa (HQ2.out.le ((Le.refl w2).drew.trans hz))
    have LE3:=Aa (LE2.out.drew.trans hz)
    clear HQ2 LE2 HPL HX2
    obtain⟨pre,old,post,hpre,hold,hrow⟩:=HQ3.out.row p hpR
    have HROW:=Aa (And.intro hpre (And.intro hold hrow))
    clear hpre hold hrow
    have q1:IntKind.i64.wrap ((vs.length:Int)+1)=(vs.length:Int)+1:=IntWalk.i64_in _ (by omega)
    go_wp2_with (refine Bc rfl 271 (.tmp 19) (.tmp 18) rfl pre (cs:=[.int .i64 m,.int .u64 ep]) (old:=old) (post:=post) (by rw[HROW.out.1];rfl) rfl (by kernel_rfl) (by simp[Value.oneCell']) (by have:=HROW.out.2.2;rw[List.append_assoc] at this;exact this) HROW.out.2.1 ?_;intro w4 h4 hg4;have H4:=Aa h4;have HG4:=Aa hg4;have HH4:=Aa (Ai hg4 HQ3.out.hQ (by intro e;injection e with e;exact HQ3.out.ne e));have z4:=Ae HH4.out 2;have z5:=Ay HH4.out 2;clear h4 hg4)
    go_ret
    have hQ5:=AG (i:=2) (.int .i64 ((vs.length:Int)+1)) HH4.out
    have hA5:=AL (i:=2) (.int .i64 ((vs.length:Int)+1)) H4.out HQ3.out.ne
    refine⟨by rw[decide_eq_true hlt];rfl,?_,((Fp.of_le LE3.out).trans (Fp.of_grown HG4.out (.inr rfl))).setCell (.inl rfl) _⟩
    rw[if_pos hlt]
    exact HQ3.out.push hlt rfl (by rw[← HP.out];exact HROW.out.1) HROW.out.2.1 (by simpa using HROW.out.2.2) (by simpa using hA5) hQ5
 ·have hz:((R:Int) - vs.length==0)=true:=by rw[beq_iff_eq];omega
  go_wp2_with fail
  go_ret
  refine⟨by rw[decide_eq_false hlt];rfl,?_,Fp.of_le LE2.out⟩
  rw[if_neg hlt]
  exact HQ2.out
theorem qaPeek0 {w:World} {Q A R f:Nat} (h:QAt 356 271 2 w Q A R f []):Calls Tryz.prog 183 #[.pointer (some ⟨Q,0,none⟩)] w (Ax w (.tuple #[.agg #[.int .i64 0,.int .u64 0],.bool false])):=by
 have HQ0:=Aa h
 clear h
 have LE:=Aa ((Le.refl w).alloc (.cells #[.int .i64 0,.int .u64 0] 271))
 have HX:=Aa (heap_alloc_new w (.cells #[.int .i64 0,.int .u64 0] 271))
 go_enter Tryz.func183,Tryz.ntmps183
 go_wp2_with fail
 generalize w.alloc (.cells #[.int .i64 0,.int .u64 0] 271)=w1 at *
 have hgs:=Ah HX.out
 refine (qaLen (HQ0.out.le LE.out)).mono ?_
 rintro e w2 ⟨rfl,hb⟩
 have LE2:=Aa (LE.out.trans ⟨hb⟩)
 have HX2:=Aa ((Le.mk hb).heap HX.out)
 clear hb
 simp only[List.length_nil]
 go_wp2_with (first | (refine Al rfl 271 (.tmp 4) rfl (cs:=[.int .i64 0,.int .u64 0]) _ rfl Tryz.underlying271 rfl (by kernel_rfl) (heap_alloc_new _ _) ?_) | (refine Ak rfl 271 (.tmp 2) (.tmp 8) (cs:=[.int .i64 0,.int .u64 0]) (old:=[.int .i64 0,.int .u64 0]) rfl rfl rfl (by kernel_rfl) (by simp[Value.oneCell']) (heap_alloc HX2.out) rfl ?_;intro w4 h4 hg4;have H4:=Aa h4;have HB4:=Aa (AT (LE2.out.alloc _).out hg4 (Nat.le_refl _) (LE2.out.alloc _).size);clear h4 hg4))
 refine BN Tryz.results183 (Bb.mk' rfl H4.out Tryz.underlying271 rfl (by kernel_rfl)) rfl ?_
 exact⟨rfl,HB4.out⟩
theorem qaPeek1 {w:World} {Q A R f:Nat} {vs:List (List Value)} (va vb:Value) (h:QAt 356 271 2 w Q A R f ([va,vb]::vs)) (h1:∀ u∈[va,vb],u.oneCell'=true):Calls Tryz.prog 183 #[.pointer (some ⟨Q,0,none⟩)] w (Ax w (.tuple #[.agg #[va,vb],.bool true])):=by
 have HQ0:=Aa h
 have H1:=Aa h1
 have hfR:=h.fR
 have hnR:=h.nR
 have hR1:=h.R1
 have hfI:(f:Int)<(R:Int):=by omega
 have hf0:(0:Int)≤(f:Int):=by omega
 clear h h1
 have LE:=Aa ((Le.refl w).alloc (.cells #[.int .i64 0,.int .u64 0] 271))
 have HX:=Aa (heap_alloc_new w (.cells #[.int .i64 0,.int .u64 0] 271))
 go_enter Tryz.func183,Tryz.ntmps183
 go_wp2_with fail
 generalize w.alloc (.cells #[.int .i64 0,.int .u64 0] 271)=w1 at *
 have hgs:=Ah HX.out
 refine (qaLen (HQ0.out.le LE.out)).mono ?_
 rintro e w2 ⟨rfl,hb⟩
 have LE2:=Aa (LE.out.trans ⟨hb⟩)
 have HX2:=Aa ((Le.mk hb).heap HX.out)
 have HQ2:=Aa (HQ0.out.le LE2.out)
 clear hb HQ0
 have hz:((List.length ([va,vb]::vs):Int)==0)=false:=by rw[beq_eq_false_iff_ne];simp;omega
 go_upto_region 4 with fail
 refine' Aj 10 10 9 Le (Is _::Is _::Is _::Is _::Is _::Is _::Is _::Is _::Is _::Is _::[]) ([]::[0]::[1]::[2]::[]::[4]::[5]::[6]::[3,7]::[8]::[]) (by kernel_rfl) (by kernel_rfl) (by rfl) (by kernel_rfl) (by kernel_rfl) Le.refl (fun _ _ _ h h'=>h.trans h') ⟨St.is,St.is,St.is,St.is,St.is,St.is,St.is,St.is,St.is,St.is,trivial⟩ ?m4
 case m4 =>
  simp (maxSteps:=100000000) only [AR,Bv,AK,AC,An,AD,Am,Au,List.set_cons_succ,List.set_cons_zero,List.getElem?_cons_zero,List.getElem?_cons_succ,List.take_succ_cons,List.take_zero,List.drop_succ_cons,List.drop_zero,List.cons_append,List.nil_append,List.length_cons,List.length_nil,Nat.reduceAdd]
  intro x0 x1 x2 x3 x4 x5 x6 x7 x8 x9
  refine⟨⟨?_,?_,?_,?_,?_,?_,?_,?_,?_,?_,trivial⟩,?_⟩
  ·intro wo hw KQ hK;go_simp;exact hK _ _ .r .m
  ·intro wo hw h0 KQ hK;cases h0;go_simp;exact hK _ _ .r .m
  ·intro wo hw h1 KQ hK;cases h1;go_simp;exact hK _ _ .r .m
  ·intro wo hw h2 KQ hK;cases h2;have kk:=Af (hw.heap HQ2.out.hQ) 0 (.slice (some ⟨A,0,none⟩) R R) rfl wo (Le.refl _);go_simp;exact hK _ _ .r .m
  ·intro wo hw KQ hK;go_simp;exact hK _ _ .r .m
  ·intro wo hw h4 KQ hK;cases h4;go_simp;exact hK _ _ .r .m
  ·intro wo hw h5 KQ hK;cases h5;go_simp;exact hK _ _ .r .m
  ·intro wo hw h6 KQ hK;cases h6;have kk:=Af (hw.heap HQ2.out.hQ) 1 (.int .i64 f) rfl wo (Le.refl _);go_simp;exact hK _ _ .r .m
  ·intro wo hw h3 h7 KQ hK;cases h3;cases h7;go_simp;exact hK _ _ .r .m
  ·intro wo hw h8 KQ hK;cases h8;refine cast (if_pos (show Region.wanted _ _=true from rfl)).symm ?_;refine wp_load_mid 271 (.tmp 17) rfl A (f*2) rfl [va,vb] _ ((HQ2.out.le ((Le.refl w2).drew.trans hw)).first) Tryz.underlying271 rfl (by kernel_rfl) ?_;exact hK _ _ .r .m
  ·intro wz hz h0 h1 h2 h3 h4 h5 h6 h7 h8 h9;cases h0;cases h1;cases h2;cases h3;cases h4;cases h5;cases h6;cases h7;cases h8;cases h9;skip
   have LE3:=Aa (LE2.out.drew.trans hz)
   have HX3:=Aa (((Le.refl w2).drew.trans hz).heap HX2.out)
   go_wp2_with (refine Ak rfl 271 (.tmp 2) (.tmp 18) (cs:=[va,vb]) (old:=[.int .i64 0,.int .u64 0]) rfl rfl rfl (by kernel_rfl) H1.out HX3.out rfl ?_;intro w4 h4 hg4;have H4:=Aa h4;have HB4:=Aa (AT LE3.out.out hg4 (Nat.le_refl _) LE3.out.size);clear h4 hg4)
   refine BN Tryz.results183 (Bb.mk' rfl H4.out Tryz.underlying271 rfl (by kernel_rfl)) rfl ?_
   exact⟨rfl,HB4.out⟩
theorem qaPop0 {w:World} {Q A R f:Nat} (h:QAt 356 271 2 w Q A R f []):Calls Tryz.prog 132 #[.pointer (some ⟨Q,0,none⟩)] w (Ax w (.tuple #[.agg #[.int .i64 0,.int .u64 0],.bool false])):=by
 have HQ0:=Aa h
 clear h
 have LE:=Aa ((Le.refl w).alloc (.cells #[.int .i64 0,.int .u64 0] 271))
 have HX:=Aa (heap_alloc_new w (.cells #[.int .i64 0,.int .u64 0] 271))
 go_enter Tryz.func132,Tryz.ntmps132
 go_wp2_with fail
 generalize w.alloc (.cells #[.int .i64 0,.int .u64 0] 271)=w1 at *
 have hgs:=Ah HX.out
 refine (qaPeek0 (HQ0.out.le LE.out)).mono ?_
 rintro e w2 ⟨rfl,hb⟩
 have LE2:=Aa (LE.out.trans ⟨hb⟩)
 have HX2:=Aa ((Le.mk hb).heap HX.out)
 clear hb
 go_wp2_with (first | (refine Al rfl 271 (.tmp 4) rfl (cs:=[.int .i64 0,.int .u64 0]) _ rfl Tryz.underlying271 rfl (by kernel_rfl) (heap_alloc_new _ _) ?_) | (refine Ak rfl 271 (.tmp 2) (.tmp 35) (cs:=[.int .i64 0,.int .u64 0]) (old:=[.int .i64 0,.int .u64 0]) rfl rfl rfl (by kernel_rfl) (by simp[Value.oneCell']) (heap_alloc HX2.out) rfl ?_;intro w4 h4 hg4;have H4:=Aa h4;have HB4:=Aa (AT (LE2.out.alloc _).out hg4 (Nat.le_refl _) (LE2.out.alloc _).size);clear h4 hg4))
 refine BN Tryz.results132 (Bb.mk' rfl H4.out Tryz.underlying271 rfl (by kernel_rfl)) rfl ?_
 exact⟨rfl,HB4.out⟩
def qaPopP (w:World) (Q A R f:Nat) (vs:List (List Value)) (v:Value) (e:Ending) (w':World):Prop :=
 e=.returned (.tuple #[v,.bool true])∧QAt 356 271 2 w' Q A R ((f+1)%R) vs∧Fp (qS Q A) w w'
theorem qaPop1 {w:World} {Q A R f:Nat} {vs:List (List Value)} (va vb:Value) (h:QAt 356 271 2 w Q A R f ([va,vb]::vs)) (h1:∀ u∈[va,vb],u.oneCell'=true):Calls Tryz.prog 132 #[.pointer (some ⟨Q,0,none⟩)] w (qaPopP w Q A R f vs (.agg #[va,vb])):=by
 have HQ0:=Aa h
 have H1:=Aa h1
 have hfR:=h.fR
 have hnR:=h.nR
 have hR1:=h.R1
 have hfI:(f:Int)<(R:Int):=by omega
 have hf0:(0:Int)≤(f:Int):=by omega
 have hQlt:=Ah h.hQ
 have hAQ:=h.ne
 have hAlt:A<w.heap.size:=by obtain⟨cur,hA,_⟩:=h.hA;exact Ah hA
 clear h h1
 have LE:=Aa ((Le.refl w).alloc (.cells #[.int .i64 0,.int .u64 0] 271))
 have HX:=Aa (heap_alloc_new w (.cells #[.int .i64 0,.int .u64 0] 271))
 go_enter Tryz.func132,Tryz.ntmps132
 go_wp2_with fail
 generalize w.alloc (.cells #[.int .i64 0,.int .u64 0] 271)=w1 at *
 have hgs:=Ah HX.out
 refine (qaPeek1 va vb (HQ0.out.le LE.out) H1.out).mono ?_
 rintro e w2 ⟨rfl,hb⟩
 have LE2:=Aa (LE.out.trans ⟨hb⟩)
 have HX2:=Aa ((Le.mk hb).heap HX.out)
 have hsz2:=LE2.out.size
 have HQ2:=Aa (HQ0.out.le LE2.out)
 have HF2:=Aa (Fp.of_le (S:=qS Q A) LE2.out)
 clear hb HQ0
 go_upto_region 4 with (first | (refine Ak rfl 271 (.tmp 4) (.tmp 10) (cs:=[va,vb]) rfl rfl rfl (by kernel_rfl) H1.out (heap_alloc_new _ _) rfl ?_;intro w3 hn hg;have hbx:=((Le.refl w2).alloc _).box1 hg (Nat.le_refl _);have H2_3:=Aa ((hbx).heap HX2.out);have HQ_3:=Aa (HQ2.out.le hbx);have HF_3:=Aa (HF2.out.trans (Fp.of_le hbx));have LE_3:=Aa (Le.trans LE2.out hbx);have H4_3:=Aa (hn);have hs1:=Ah H4_3.out;clear HX2 HQ2 HF2 LE2;clear hn hg hbx))
 have H2_4:=Aa (show (World.alloc w3 (.cells #[.int .i64 0,.int .u64 0] 271)).heap[w.heap.size]?=some (.cells #[.int .i64 0,.int .u64 0] 271 (0,0)) from heap_alloc H2_3.out)
 have H4_4:=Aa (show (World.alloc w3 (.cells #[.int .i64 0,.int .u64 0] 271)).heap[w2.heap.size]?=some (.cells #[va,vb] 271 (0,0)) from heap_alloc H4_3.out)
 have H6_4:=Aa (show (World.alloc w3 (.cells #[.int .i64 0,.int .u64 0] 271)).heap[w3.heap.size]?=some (.cells #[.int .i64 0,.int .u64 0] 271 (0,0)) from heap_alloc_new _ _)
 have HQ_4:=Aa (HQ_3.out.le ((Le.refl w3).alloc (.cells #[.int .i64 0,.int .u64 0] 271)))
 have HF_4:=Aa (HF_3.out.trans (Fp.of_le ((Le.refl w3).alloc (.cells #[.int .i64 0,.int .u64 0] 271))))
 have LE_4:=Aa (show Le w (World.alloc w3 (.cells #[.int .i64 0,.int .u64 0] 271)) from LE_3.out.alloc _)
 clear H2_3 H4_3 HQ_3 HF_3 LE_3
 generalize (World.alloc w3 (.cells #[.int .i64 0,.int .u64 0] 271))=w5 at *
 have hs2:=Ah H6_4.out
 refine' Aj 10 10 13 Le (Is _::Is _::Is _::Is _::Is _::Is _::Is _::Is _::Is _::Is _::[]) ([]::[0]::[1]::[2]::[]::[4]::[5]::[6]::[]::[3,7]::[]) (by kernel_rfl) (by kernel_rfl) (by rfl) (by kernel_rfl) (by kernel_rfl) Le.refl (fun _ _ _ h h'=>h.trans h') ⟨St.is,St.is,St.is,St.is,St.is,St.is,St.is,St.is,St.is,St.is,trivial⟩ ?m4
 case m4 =>
  simp (maxSteps:=100000000) only [AR,Bv,AK,AC,An,AD,Am,Au,List.set_cons_succ,List.set_cons_zero,List.getElem?_cons_zero,List.getElem?_cons_succ,List.take_succ_cons,List.take_zero,List.drop_succ_cons,List.drop_zero,List.cons_append,List.nil_append,List.length_cons,List.length_nil,Nat.reduceAdd]
  intro x0 x1 x2 x3 x4 x5 x6 x7 x8 x9
  refine⟨⟨?_,?_,?_,?_,?_,?_,?_,?_,?_,?_,trivial⟩,?_⟩
  ·intro wo hw KQ hK;go_simp;exact hK _ _ .r .m
  ·intro wo hw h0 KQ hK;cases h0;go_simp;exact hK _ _ .r .m
  ·intro wo hw h1 KQ hK;cases h1;go_simp;exact hK _ _ .r .m
  ·intro wo hw h2 KQ hK;cases h2;have kk:=Af (hw.heap HQ_4.out.hQ) 0 (.slice (some ⟨A,0,none⟩) R R) rfl wo (Le.refl _);go_simp;exact hK _ _ .r .m
  ·intro wo hw KQ hK;go_simp;exact hK _ _ .r .m
  ·intro wo hw h4 KQ hK;cases h4;go_simp;exact hK _ _ .r .m
  ·intro wo hw h5 KQ hK;cases h5;go_simp;exact hK _ _ .r .m
  ·intro wo hw h6 KQ hK;cases h6;have kk:=Af (hw.heap HQ_4.out.hQ) 1 (.int .i64 f) rfl wo (Le.refl _);go_simp;exact hK _ _ .r .m
  ·intro wo hw KQ hK;refine cast (if_pos (show Region.wanted _ _=true from rfl)).symm ?_;have hz:=(hw.heap H6_4.out);refine Av 271 (.tmp 6) rfl (cs:=[.int .i64 0,.int .u64 0]) _ rfl Tryz.underlying271 rfl (by kernel_rfl) hz ?_;exact hK _ _ .r .m
  ·intro wo hw h3 h7 KQ hK;cases h3;cases h7;go_simp;exact hK _ _ .r .m
  ·intro wz hz h0 h1 h2 h3 h4 h5 h6 h7 h8 h9;cases h0;cases h1;cases h2;cases h3;cases h4;cases h5;cases h6;cases h7;cases h8;cases h9;skip
   have H2_5:=Aa ((((Le.refl w5).drew.trans hz)).heap H2_4.out)
   have H4_5:=Aa ((((Le.refl w5).drew.trans hz)).heap H4_4.out)
   have H6_5:=Aa ((((Le.refl w5).drew.trans hz)).heap H6_4.out)
   have HQ_5:=Aa (HQ_4.out.le ((Le.refl w5).drew.trans hz))
   have HF_5:=Aa (HF_4.out.trans (Fp.of_le ((Le.refl w5).drew.trans hz)))
   have LE_5:=Aa (Le.trans LE_4.out ((Le.refl w5).drew.trans hz))
   have hs3:=Ah H6_5.out
   clear H2_4 H4_4 H6_4 HQ_4 HF_4 LE_4
   obtain⟨pre,old,post,hpre,hold,hrow⟩:=HQ_5.out.row f hfR
   have HROW:=Aa (And.intro hpre (And.intro hold hrow))
   have HQC:=Aa (HQ_5.out.hQ)
   clear hpre hold hrow
   have hszz:=LE_5.out.size
   clear LE_5
   go_upto_region 5 with (refine Bc rfl 271 (.tmp 22) (.tmp 21) rfl pre (cs:=[.int .i64 0,.int .u64 0]) (old:=old) (post:=post) (by rw[HROW.out.1];rfl) rfl (by kernel_rfl) (by simp[Value.oneCell']) (by have:=HROW.out.2.2;rw[List.append_assoc] at this;exact this) HROW.out.2.1 ?_;intro w4 hn hg;have HA4:=Aa hn;have H2_6:=Aa (Ai hg H2_5.out (by simp<;>omega));have H4_6:=Aa (Ai hg H4_5.out (by simp<;>omega));have H6_6:=Aa (Ai hg H6_5.out (by simp<;>omega));have HQ_6:=Aa (Ai hg HQC.out (by simp<;>omega));have HF_6:=Aa (HF_5.out.trans (Fp.of_grown hg (.inr rfl)));clear H2_5 H4_5 H6_5 HQC HF_5 hn hg)
   obtain⟨fn,hfn⟩:∃ fn,fn=(f+1)%R:=⟨_,rfl⟩
   have HPL:=Aa (fun W hQ=>GY (w:=W) (Q:=Q) (A:=A) (x:=.int .i64 (([va,vb]::vs).length:Nat)) hQ hfR hR1 1 (by simp at hnR;omega))
   rw[← hfn] at HPL
   have HFN:=Aa hfn
   clear hfn
   go_wp2_with fail
   refine (HPL.out _ HQ_6.out).mono ?_
   rintro e w6 ⟨rfl,hb⟩
   have H2_7:=Aa ((Le.mk hb).heap H2_6.out)
   have H4_7:=Aa ((Le.mk hb).heap H4_6.out)
   have H6_7:=Aa ((Le.mk hb).heap H6_6.out)
   have HQ_7:=Aa ((Le.mk hb).heap HQ_6.out)
   have HF_7:=Aa (HF_6.out.trans (Fp.of_le (Le.mk hb)))
   have HA4_7:=Aa ((Le.mk hb).heap HA4.out)
   clear H2_6 H4_6 H6_6 HQ_6 HF_6 HA4 hb HPL
   have z1_7:=Af HQ_7.out 1 (.int .i64 f) rfl _ (Le.refl _)
   have y1_7:=Ay HQ_7.out 1
   go_upto_region 6 with fail
   clear z1_7 y1_7
   have H2_8:=Aa (show (World.setCell w6 ⟨Q,1,none⟩ (.int .i64 fn)).heap[w.heap.size]?=some (.cells #[.int .i64 0,.int .u64 0] 271 (0,0)) from AL (i:=1) (.int .i64 fn) H2_7.out (by simp<;>omega))
   have H4_8:=Aa (show (World.setCell w6 ⟨Q,1,none⟩ (.int .i64 fn)).heap[w2.heap.size]?=some (.cells #[va,vb] 271 (0,0)) from AL (i:=1) (.int .i64 fn) H4_7.out (by simp<;>omega))
   have H6_8:=Aa (show (World.setCell w6 ⟨Q,1,none⟩ (.int .i64 fn)).heap[w3.heap.size]?=some (.cells #[.int .i64 0,.int .u64 0] 271 (0,0)) from AL (i:=1) (.int .i64 fn) H6_7.out (by simp<;>omega))
   have HQ_8:=Aa (show (World.setCell w6 ⟨Q,1,none⟩ (.int .i64 fn)).heap[Q]?=some (.cells #[.slice (some ⟨A,0,none⟩) R R,.int .i64 fn,.int .i64 (([va,vb]::vs).length:Nat)] 356 (0,0)) from AG (i:=1) (.int .i64 fn) HQ_7.out)
   have HF_8:=Aa (HF_7.out.setCell (p:=⟨Q,1,none⟩) (.inl rfl) (.int .i64 fn))
   have HA4_8:=Aa (AL (i:=1) (.int .i64 fn) HA4_7.out hAQ)
   clear H2_7 H4_7 H6_7 HQ_7 HF_7 HA4_7 
   generalize (World.setCell w6 ⟨Q,1,none⟩ (.int .i64 fn))=w7 at *
   simp only[List.length_cons] at *
   have q1:IntKind.i64.wrap (((vs.length+1:Nat):Int) - 1)=vs.length:=by rw[IntWalk.i64_in _ (by omega)];omega
   have z2_8:=Af HQ_8.out 2 (.int .i64 ((vs.length+1:Nat):Int)) rfl _ (Le.refl _)
   have y2_8:=Ay HQ_8.out 2
   go_upto_region 7 with fail
   clear z2_8 y2_8
   have H2_9:=Aa (show (World.setCell w7 ⟨Q,2,none⟩ (.int .i64 vs.length)).heap[w.heap.size]?=some (.cells #[.int .i64 0,.int .u64 0] 271 (0,0)) from AL (i:=2) (.int .i64 vs.length) H2_8.out (by simp<;>omega))
   have H4_9:=Aa (show (World.setCell w7 ⟨Q,2,none⟩ (.int .i64 vs.length)).heap[w2.heap.size]?=some (.cells #[va,vb] 271 (0,0)) from AL (i:=2) (.int .i64 vs.length) H4_8.out (by simp<;>omega))
   have H6_9:=Aa (show (World.setCell w7 ⟨Q,2,none⟩ (.int .i64 vs.length)).heap[w3.heap.size]?=some (.cells #[.int .i64 0,.int .u64 0] 271 (0,0)) from AL (i:=2) (.int .i64 vs.length) H6_8.out (by simp<;>omega))
   have HQ_9:=Aa (show (World.setCell w7 ⟨Q,2,none⟩ (.int .i64 vs.length)).heap[Q]?=some (.cells #[.slice (some ⟨A,0,none⟩) R R,.int .i64 fn,.int .i64 vs.length] 356 (0,0)) from AG (i:=2) (.int .i64 vs.length) HQ_8.out)
   have HF_9:=Aa (HF_8.out.setCell (p:=⟨Q,2,none⟩) (.inl rfl) (.int .i64 vs.length))
   have HA4_9:=Aa (AL (i:=2) (.int .i64 vs.length) HA4_8.out hAQ)
   clear H2_8 H4_8 H6_8 HQ_8 HF_8 HA4_8 
   generalize (World.setCell w7 ⟨Q,2,none⟩ (.int .i64 vs.length))=w8 at *
   go_wp2_with (first | (refine Al rfl 271 (.tmp 4) rfl (cs:=[va,vb]) _ rfl Tryz.underlying271 rfl (by kernel_rfl) H4_9.out ?_) | (refine Ak rfl 271 (.tmp 2) (.tmp 35) (cs:=[va,vb]) (old:=[.int .i64 0,.int .u64 0]) rfl rfl rfl (by kernel_rfl) H1.out H2_9.out rfl ?_;intro w9 hn hg;have H29:=Aa hn;have HQ9:=Aa (Ai hg HQ_9.out (by simp<;>omega));have HA9:=Aa (Ai hg HA4_9.out (by simp<;>omega));have HF9:=Aa (HF_9.out.fresh hg (Nat.le_refl _));clear hn hg))
   refine BN Tryz.results132 (Bb.mk' rfl H29.out Tryz.underlying271 rfl (by kernel_rfl)) rfl ?_
   refine⟨rfl,?_,HF9.out⟩
   exact HQ_5.out.pop (z:=[.int .i64 0,.int .u64 0]) rfl HROW.out.1 HROW.out.2.1 HROW.out.2.2 (by have:=HA9.out;rw[List.append_assoc];exact this) (by rw[← HFN.out];exact HQ9.out)
end Go.Proofs.YtmcndlofaanjiaaGreat
