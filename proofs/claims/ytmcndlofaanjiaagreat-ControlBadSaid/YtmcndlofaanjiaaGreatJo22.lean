/- Texts of one claim, laid together: Del20 Sm Bd -/
import Derived.RangeFuncNested
import Derived.RangeFuncBound
import Derived.RangeFuncCalls
import Derived.RangeFuncLeaves
import Derived.RangeFuncWrites
import Derived.Shelf.Abstract
import Derived.Shelf.RegionOpen
import Derived.OwnWalkIn
import Derived.TacticsInMore
import Derived.LoopNIn
import Derived.LoopIn
import Derived.Test.YtmcndlofaanjiaaGreatJo21
import Derived.Test.YtmcndlofaanjiaaGreatJo07
import Derived.Test.YtmcndlofaanjiaaGreatJo17
import Derived.Test.YtmcndlofaanjiaaGreatJo20
import Derived.Test.YtmcndlofaanjiaaGreatJo08
import Derived.Test.YtmcndlofaanjiaaGreatJo19
import Derived.Test.YtmcndlofaanjiaaGreatJo06
/- delta: Do. (Written by gen_del20.py.) -/
namespace Go.Proofs.YtmcndlofaanjiaaGreat
open Go.RowKit
set_option linter.unusedVariables false
set_option maxRecDepth 100000
set_option maxHeartbeats 8000000
structure DdoP (w:World) (s:DS) (pv tv sv:Value) (r:DS×Int) (e:Ending) (w':World):Prop where
 le:Le w w'
 ok:r.2=0→∃ pv tv sv ts,e=.returned (.tuple #[dsV r.1 pv tv sv,.int .i64 0])∧DsB (fun k=>w.heap.size≤k) w' r.1 pv tv sv ts
 no:r.2≠0→e=.returned (.tuple #[dsV s pv tv sv,.int .i64 r.2])
theorem Le.box20 {w W W':World} {g:Nat} (h:Le w W) (hg:W.grownBy W' (some g)) (hn:w.heap.size≤g):Le w W':=⟨h.out.grown hg h.size (by rintro k e;injection e with e;omega)⟩
theorem GM {a b c d:Int} {pv tv sv:Value} (h1:pv.oneCell'=true) (h2:tv.oneCell'=true) (h3:sv.oneCell'=true):∀ v∈[Value.int .i64 a,.int .i64 b,.int .i64 c,.int .i64 d,pv,tv,sv],v.oneCell'=true:=by
 intro u hu
 simp only[List.mem_cons,List.not_mem_nil,or_false] at hu
 rcases hu with rfl | rfl | rfl | rfl | rfl | rfl | rfl
 ·rfl
 ·rfl
 ·rfl
 ·rfl
 ·exact h1
 ·exact h2
 ·exact h3
theorem cells_fp {S:Nat→Prop} {w0 w w':World} {A:Option Addr} {xs:List Value} (h:Bk w0 A xs) (hl:Le w0 w) (hf:Fp S w w') (hs:∀ k,S k→w0.heap.size≤k):Bk w' A xs:=AI h (Fp.le_new hl hf hs)
def doF:Nat→Nat
 | 0=>162
 | 1=>163
 | 2=>164
 | 3=>165
 | 4=>166
 | 5=>167
 | 6=>168
 | 7=>169
 | 8=>170
 | _=>171
section
variable {M M':Nat→Prop} {w w' w'':World} {a:Nat} {s:DS} {pv tv sv:Value} {ts:List (Trk×Value)}
theorem Ia (k:Nat):∀ args w,(callFunc (doF k) args).run Tryz.prog w=.ok (.enter (doF k) args) w:=by
 unfold doF
 split
 ·exact Bt Tryz.func162 (by kernel_rfl) rfl
 ·exact Bt Tryz.func163 (by kernel_rfl) rfl
 ·exact Bt Tryz.func164 (by kernel_rfl) rfl
 ·exact Bt Tryz.func165 (by kernel_rfl) rfl
 ·exact Bt Tryz.func166 (by kernel_rfl) rfl
 ·exact Bt Tryz.func167 (by kernel_rfl) rfl
 ·exact Bt Tryz.func168 (by kernel_rfl) rfl
 ·exact Bt Tryz.func169 (by kernel_rfl) rfl
 ·exact Bt Tryz.func170 (by kernel_rfl) rfl
 ·exact Bt Tryz.func171 (by kernel_rfl) rfl
theorem doF_any (k:Nat) (hk:k<10) (h:DtB M w a s pv tv sv ts) (ok:s.Ok) (fw:s.Few) (hfr:∀ t∈s.tracks,t.from_<4611686018427387904) (q:Rq) (hq:q.kind=k) (A:Option Addr) (cap:Nat) (hc:Bk w A (CA q.ssrcs)) (hn:q.ssrcs.length≤1000) (hcap:q.ssrcs.length≤cap) (hA:A=none→q.ssrcs.length=0∧cap=0) (hst:∀ W,Fp M w W→Bk W A (CA q.ssrcs)) (hp:k≠0→s.hasP q.who=true) :
  Calls Tryz.prog (doF k) #[.pointer (some ⟨a,0,none⟩),rqV q (.slice A q.ssrcs.length cap)] w (DoP M w a (s.call q)):=by
 have h1:(Value.slice A q.ssrcs.length cap).oneCell'=true:=rfl
 unfold DS.call
 rw[hq]
 rcases (show k=0∨k=1∨k=2∨k=3∨k=4∨k=5∨k=6∨k=7∨k=8∨k=9 by omega) with rfl | rfl | rfl | rfl | rfl | rfl | rfl | rfl | rfl | rfl
 ·exact join_any h ok fw q _ h1
 ·exact leave_any h ok fw q _ h1
 ·exact Gq h ok fw q A cap hc hn hcap hA hst (hp (by decide))
 ·exact E8 h ok fw q _ h1
 ·exact GF h ok fw hfr q A cap hc hn hcap hA
 ·exact Fi h ok fw q _ h1 (hp (by decide))
 ·exact Ef h ok fw q _ h1
 ·exact mute_any h ok fw q _ h1
 ·exact Hq h ok fw q _ h1
 ·exact Gu h ok fw q _ h1
theorem do_any (h:DsB M w s pv tv sv ts) (ok:s.Ok) (fw:s.Few) (hfr:∀ t∈s.tracks,t.from_<4611686018427387904) (q:Rq) (A:Option Addr) (cap:Nat) (hc:Bk w A (CA q.ssrcs)) (hn:q.ssrcs.length≤1000) (hcap:q.ssrcs.length≤cap) (hA:A=none→q.ssrcs.length=0∧cap=0) :
  Calls Tryz.prog 118 #[dsV s pv tv sv,rqV q (.slice A q.ssrcs.length cap)] w (DdoP w s pv tv sv (s.do_ q)):=by
 obtain⟨l1,l2,l3⟩:=lens ok fw
 have H0:=Aa h
 have HC:=Aa hc
 have HAN:=Aa hA
 have HFR:=Aa hfr
 have HN:=Aa hn
 have HCP:=Aa hcap
 have o1:=AF h.hP
 have o2:=AF h.hT
 have o3:=AF h.hS
 obtain⟨R,hR⟩:∃ R,R=DdoP w s pv tv sv (s.do_ q):=⟨_,rfl⟩
 rw[← hR]
 have HR:=Aa hR
 clear hR h hc hA hfr hn hcap
 show Calls Tryz.prog 118 #[.agg #[.int .i64 s.mp,.int .i64 s.mt,.int .i64 s.ms,.int .i64 s.ml,pv,tv,sv],.agg #[.int .i64 q.kind,.int .i64 q.who,.int .i64 q.room,.int .i64 q.rights,.int .i64 q.track,.slice A q.ssrcs.length cap,.int .i64 q.layer,.int .i64 q.tid]] w R
 go_enter Tryz.func118,Tryz.ntmps118
 go_upto_region 1 with fail
 have LE:=Aa (Le.refl w)
 have Hs_1:=Aa (show (World.alloc (World.alloc (World.alloc w (.cells #[.int .i64 s.mp,.int .i64 s.mt,.int .i64 s.ms,.int .i64 s.ml,pv,tv,sv] 62)) (.cells #[.int .i64 q.kind,.int .i64 q.who,.int .i64 q.room,.int .i64 q.rights,.int .i64 q.track,.slice A q.ssrcs.length cap,.int .i64 q.layer,.int .i64 q.tid] 31)) (.cells #[.int .i64 0,.int .i64 0,.int .i64 0,.int .i64 0,.slice none 0 0,.slice none 0 0,.slice none 0 0] 62)).heap[w.heap.size]?=some (.cells #[.int .i64 s.mp,.int .i64 s.mt,.int .i64 s.ms,.int .i64 s.ml,pv,tv,sv] 62 (0,0)) from (heap_alloc (heap_alloc (heap_alloc_new _ _))))
 have Hq_1:=Aa (show (World.alloc (World.alloc (World.alloc w (.cells #[.int .i64 s.mp,.int .i64 s.mt,.int .i64 s.ms,.int .i64 s.ml,pv,tv,sv] 62)) (.cells #[.int .i64 q.kind,.int .i64 q.who,.int .i64 q.room,.int .i64 q.rights,.int .i64 q.track,.slice A q.ssrcs.length cap,.int .i64 q.layer,.int .i64 q.tid] 31)) (.cells #[.int .i64 0,.int .i64 0,.int .i64 0,.int .i64 0,.slice none 0 0,.slice none 0 0,.slice none 0 0] 62)).heap[w.heap.size+1]?=some (.cells #[.int .i64 q.kind,.int .i64 q.who,.int .i64 q.room,.int .i64 q.rights,.int .i64 q.track,.slice A q.ssrcs.length cap,.int .i64 q.layer,.int .i64 q.tid] 31 (0,0)) from (heap_alloc (EZ (by simp))))
 have Ho_1:=Aa (show (World.alloc (World.alloc (World.alloc w (.cells #[.int .i64 s.mp,.int .i64 s.mt,.int .i64 s.ms,.int .i64 s.ml,pv,tv,sv] 62)) (.cells #[.int .i64 q.kind,.int .i64 q.who,.int .i64 q.room,.int .i64 q.rights,.int .i64 q.track,.slice A q.ssrcs.length cap,.int .i64 q.layer,.int .i64 q.tid] 31)) (.cells #[.int .i64 0,.int .i64 0,.int .i64 0,.int .i64 0,.slice none 0 0,.slice none 0 0,.slice none 0 0] 62)).heap[w.heap.size+1+1]?=some (.cells #[.int .i64 0,.int .i64 0,.int .i64 0,.int .i64 0,.slice none 0 0,.slice none 0 0,.slice none 0 0] 62 (0,0)) from (EZ (by simp)))
 have LE_1:=Aa (show Le w (World.alloc (World.alloc (World.alloc w (.cells #[.int .i64 s.mp,.int .i64 s.mt,.int .i64 s.ms,.int .i64 s.ml,pv,tv,sv] 62)) (.cells #[.int .i64 q.kind,.int .i64 q.who,.int .i64 q.room,.int .i64 q.rights,.int .i64 q.track,.slice A q.ssrcs.length cap,.int .i64 q.layer,.int .i64 q.tid] 31)) (.cells #[.int .i64 0,.int .i64 0,.int .i64 0,.int .i64 0,.slice none 0 0,.slice none 0 0,.slice none 0 0] 62)) from (((LE.out.alloc _).alloc _).alloc _))
 clear LE
 generalize (World.alloc (World.alloc (World.alloc w (.cells #[.int .i64 s.mp,.int .i64 s.mt,.int .i64 s.ms,.int .i64 s.ml,pv,tv,sv] 62)) (.cells #[.int .i64 q.kind,.int .i64 q.who,.int .i64 q.room,.int .i64 q.rights,.int .i64 q.track,.slice A q.ssrcs.length cap,.int .i64 q.layer,.int .i64 q.tid] 31)) (.cells #[.int .i64 0,.int .i64 0,.int .i64 0,.int .i64 0,.slice none 0 0,.slice none 0 0,.slice none 0 0] 62))=w3 at *
 have hs1:=Ah Ho_1.out
 have hb3:=LE_1.out.size
 go_wp2_with (first | (refine Al rfl 62 (.tmp 2) rfl (cs:=[.int .i64 s.mp,.int .i64 s.mt,.int .i64 s.ms,.int .i64 s.ml,pv,tv,sv]) _ rfl Tryz.underlying62 rfl (by kernel_rfl) Hs_1.out ?_))
 refine (dsClone (H0.out.le LE_1.out) ok fw).mono ?_
 rintro e w4 ⟨pv2,tv2,sv2,ts2,rfl,hd2,hle⟩
 have hb4:=hle.size
 have HD2:=Aa hd2
 clear hd2
 have Hs_2:=Aa ((hle).heap Hs_1.out)
 have Hq_2:=Aa ((hle).heap Hq_1.out)
 have Ho_2:=Aa ((hle).heap Ho_1.out)
 have LE_2:=Aa (Le.trans LE_1.out hle)
 have hs2:=Ah Ho_2.out
 clear Hs_1 Hq_1 Ho_1 LE_1 hle
 have hb4':=hb4
 have p1:=AF HD2.out.hP
 have p2:=AF HD2.out.hT
 have p3:=AF HD2.out.hS
 skip
 go_wp2_with (first | (refine Ak rfl 62 (.tmp 6) (.tmp 12) (cs:=[.int .i64 s.mp,.int .i64 s.mt,.int .i64 s.ms,.int .i64 s.ml,pv2,tv2,sv2]) rfl rfl rfl (by kernel_rfl) (GM p1 p2 p3) (heap_alloc_new _ _) rfl ?_;intro w5 hn hg;have hbx:=((Le.refl w4).alloc _).box20 hg (Nat.le_refl _);have Hs_3:=Aa ((hbx).heap Hs_2.out);have Hq_3:=Aa ((hbx).heap Hq_2.out);have Ho_3:=Aa ((hbx).heap Ho_2.out);have DT_3:=Aa (HD2.out.le hbx);have LE_3:=Aa (Le.trans LE_2.out hbx);have Ht_3:=Aa (hn);have hs3:=Ah Ht_3.out;clear Hs_2 Hq_2 Ho_2 HD2 LE_2;clear hn hg hbx) | (refine Ak rfl 369 (.tmp 7) (.tmp 23) (cs:=[.func (.func 162) #[.pointer (some ⟨w4.heap.size,0,none⟩)] #[],.func (.func 163) #[.pointer (some ⟨w4.heap.size,0,none⟩)] #[],.func (.func 164) #[.pointer (some ⟨w4.heap.size,0,none⟩)] #[],.func (.func 165) #[.pointer (some ⟨w4.heap.size,0,none⟩)] #[],.func (.func 166) #[.pointer (some ⟨w4.heap.size,0,none⟩)] #[],.func (.func 167) #[.pointer (some ⟨w4.heap.size,0,none⟩)] #[],.func (.func 168) #[.pointer (some ⟨w4.heap.size,0,none⟩)] #[],.func (.func 169) #[.pointer (some ⟨w4.heap.size,0,none⟩)] #[],.func (.func 170) #[.pointer (some ⟨w4.heap.size,0,none⟩)] #[],.func (.func 171) #[.pointer (some ⟨w4.heap.size,0,none⟩)] #[]]) rfl rfl rfl (by kernel_rfl) (by simp[Value.oneCell']) (heap_alloc_new _ _) rfl ?_;intro w6 hn hg;have hbx:=((Le.refl w5).alloc _).box20 hg (Nat.le_refl _);have Hs_4:=Aa ((hbx).heap Hs_3.out);have Hq_4:=Aa ((hbx).heap Hq_3.out);have Ho_4:=Aa ((hbx).heap Ho_3.out);have Ht_4:=Aa ((hbx).heap Ht_3.out);have DT_4:=Aa (DT_3.out.le hbx);have LE_4:=Aa (Le.trans LE_3.out hbx);have Hf_4:=Aa (hn);have hs4:=Ah Hf_4.out;clear Hs_3 Hq_3 Ho_3 Ht_3 DT_3 LE_3;clear hn hg hbx;have y0:=Af Hq_4.out 0 (.int .i64 q.kind) rfl w6 (Le.refl _)))
 refine (Cn q.kind 0 9 w6).mono ?_
 rintro e w7 ⟨rfl,hb⟩
 have Hs_5:=Aa (((Le.mk hb)).heap Hs_4.out)
 have Hq_5:=Aa (((Le.mk hb)).heap Hq_4.out)
 have Ho_5:=Aa (((Le.mk hb)).heap Ho_4.out)
 have Ht_5:=Aa (((Le.mk hb)).heap Ht_4.out)
 have Hf_5:=Aa (((Le.mk hb)).heap Hf_4.out)
 have DT_5:=Aa (DT_4.out.le (Le.mk hb))
 have LE_5:=Aa (Le.trans LE_4.out (Le.mk hb))
 have hs5:=Ah Hf_5.out
 clear Hs_4 Hq_4 Ho_4 Ht_4 Hf_4 DT_4 LE_4 hb y0
 cases hk:inB q.kind 0 9
 ·skip
  have HE:=Aa (show s.do_ q=(s,1) by rw[DS.do_,hk];rfl)
  clear hk
  go_wp2_with (first | (refine Al rfl 62 (.tmp 2) rfl (cs:=[.int .i64 s.mp,.int .i64 s.mt,.int .i64 s.ms,.int .i64 s.ml,pv,tv,sv]) _ rfl Tryz.underlying62 rfl (by kernel_rfl) Hs_5.out ?_) | (refine Ak rfl 62 (.tmp 4) (.tmp 28) (cs:=[.int .i64 s.mp,.int .i64 s.mt,.int .i64 s.ms,.int .i64 s.ml,pv,tv,sv]) rfl rfl rfl (by kernel_rfl) (GM o1 o2 o3) Ho_5.out rfl ?_;intro w8 hn hg;have Hs_6:=Aa (Ai hg Hs_5.out (by simp<;>omega));have Hq_6:=Aa (Ai hg Hq_5.out (by simp<;>omega));have Ht_6:=Aa (Ai hg Ht_5.out (by simp<;>omega));have Hf_6:=Aa (Ai hg Hf_5.out (by simp<;>omega));have Ho_6:=Aa hn;have LE_6:=Aa (Le.mk (AT LE_5.out.out hg (by omega) LE_5.out.size));clear Hs_5 Hq_5 Ht_5 Hf_5 Ho_5 LE_5 hn hg))
  rw[HR.out,HE.out]
  refine BN Tryz.results118 (Bb.mk' rfl Ho_6.out Tryz.underlying62 rfl (by kernel_rfl)) rfl ?_
  exact⟨LE_6.out,fun h=>absurd (show (1:Int)=0 from h) (by decide),fun _=>rfl⟩
 have HKB:=Aa hk
 obtain⟨hk1,hk2⟩:=AY.1 hk
 clear hk
 have kc6:=Af Hq_5.out 1 (.int .i64 q.who) rfl w7 (Le.refl _)
 have kc7:=Af Hq_5.out 0 (.int .i64 q.kind) rfl w7 (Le.refl _)
 go_wp2_with (first | (refine Al rfl 62 (.tmp 2) rfl (cs:=[.int .i64 s.mp,.int .i64 s.mt,.int .i64 s.ms,.int .i64 s.ml,pv,tv,sv]) _ rfl Tryz.underlying62 rfl (by kernel_rfl) Hs_5.out ?_))
 refine (Cd (H0.out.le LE_5.out) ok fw _).mono ?_
 rintro e w8 ⟨rfl,hb⟩
 have Hs_6:=Aa (((Le.mk hb)).heap Hs_5.out)
 have Hq_6:=Aa (((Le.mk hb)).heap Hq_5.out)
 have Ho_6:=Aa (((Le.mk hb)).heap Ho_5.out)
 have Ht_6:=Aa (((Le.mk hb)).heap Ht_5.out)
 have Hf_6:=Aa (((Le.mk hb)).heap Hf_5.out)
 have DT_6:=Aa (DT_5.out.le (Le.mk hb))
 have LE_6:=Aa (Le.trans LE_5.out (Le.mk hb))
 have hs8:=Ah Hf_6.out
 clear kc6 kc7 Hs_5 Hq_5 Ho_5 Ht_5 Hf_5 DT_5 LE_5 hb
 have kc9:=Af Hq_6.out 0 (.int .i64 q.kind) rfl w8 (Le.refl _)
 by_cases hno:q.kind≠0∧s.hasP q.who=false
 ·skip
  have HE:=Aa (show s.do_ q=(s,21) by rw[DS.do_,HKB.out,if_neg (by simp),if_pos hno])
  obtain⟨hn1,hn2⟩:=hno
  rw[hn2]
  have hz:(q.kind !=0)=true:=by rw[bne_iff_ne];exact hn1
  clear hn1 hn2 hk1 hk2
  go_wp2_with (first | (refine Al rfl 62 (.tmp 2) rfl (cs:=[.int .i64 s.mp,.int .i64 s.mt,.int .i64 s.ms,.int .i64 s.ml,pv,tv,sv]) _ rfl Tryz.underlying62 rfl (by kernel_rfl) Hs_6.out ?_) | (refine Ak rfl 62 (.tmp 4) (.tmp 43) (cs:=[.int .i64 s.mp,.int .i64 s.mt,.int .i64 s.ms,.int .i64 s.ml,pv,tv,sv]) rfl rfl rfl (by kernel_rfl) (GM o1 o2 o3) Ho_6.out rfl ?_;intro w9 hn hg;have Hs_7:=Aa (Ai hg Hs_6.out (by simp<;>omega));have Hq_7:=Aa (Ai hg Hq_6.out (by simp<;>omega));have Ht_7:=Aa (Ai hg Ht_6.out (by simp<;>omega));have Hf_7:=Aa (Ai hg Hf_6.out (by simp<;>omega));have Ho_7:=Aa hn;have LE_7:=Aa (Le.mk (AT LE_6.out.out hg (by omega) LE_6.out.size));clear kc9 Hs_6 Hq_6 Ht_6 Hf_6 Ho_6 LE_6 hn hg))
  rw[HR.out,HE.out]
  refine BN Tryz.results118 (Bb.mk' rfl Ho_7.out Tryz.underlying62 rfl (by kernel_rfl)) rfl ?_
  exact⟨LE_7.out,fun h=>absurd (show (21:Int)=0 from h) (by decide),fun _=>rfl⟩
 have HNO:=Aa hno
 have hgo:(q.kind !=0)=false∨(q.kind !=0)=true∧s.hasP q.who=true:=by
  by_cases h0:q.kind=0
  ·left;rw[h0];rfl
  ·right;refine⟨by rw[bne_iff_ne];exact h0,?_⟩;cases hc:s.hasP q.who;exact absurd ⟨h0,hc⟩ hno;rfl
 clear hno
 obtain⟨k,hkk⟩:∃ k:Nat,q.kind=k:=⟨q.kind.toNat,by omega⟩
 have hk10:k<10:=by omega
 have KF:=Aa (show w8.cell? ⟨w5.heap.size,k,none⟩=some (.func (.func (doF k)) #[.pointer (some ⟨w4.heap.size,0,none⟩)] #[]) by
  rw[Ae Hf_6.out]
  rcases (show k=0∨k=1∨k=2∨k=3∨k=4∨k=5∨k=6∨k=7∨k=8∨k=9 by omega) with rfl | rfl | rfl | rfl | rfl | rfl | rfl | rfl | rfl | rfl<;>rfl)
 have hkI:(k:Int)<10:=by omega
 have HKK:=Aa hkk
 have HK10:=Aa hk10
 rw[hkk] at hgo kc9 ⊢
 have hpz:k≠0→s.hasP q.who=true:=by
  rcases hgo with h | h
  ·intro h0;rw[bne_eq_false_iff_eq] at h;omega
  ·exact fun _=>h.2
 have HPZ:=Aa hpz
 clear hpz
 have HCALL:=Aa (fun (W:World) (hW:Le w8 W)=>doF_any (M:=(fun k=>w3.heap.size≤k)) (w:=W) k HK10.out ⟨hW.heap Ht_6.out,hb4,DT_6.out.le hW⟩ ok fw HFR.out q HKK.out A cap (AI HC.out (LE_6.out.trans hW)) HN.out HCP.out HAN.out (fun W' hf=>cells_fp HC.out (LE_6.out.trans hW) hf (fun k hk=>Nat.le_trans hb3 hk)) HPZ.out)
 have HCALL:=Aa (fun (W:World) (hW:Le w8 W)=>show Calls Tryz.prog (doF k) #[.pointer (some ⟨w4.heap.size,0,none⟩),.agg #[.int .i64 (k:Int),.int .i64 q.who,.int .i64 q.room,.int .i64 q.rights,.int .i64 q.track,.slice A q.ssrcs.length cap,.int .i64 q.layer,.int .i64 q.tid]] W (DoP (fun k=>w3.heap.size≤k) W w4.heap.size (s.call q)) from HKK.out▸HCALL.out W hW)
 have Hqk:=Aa (show w8.heap[w.heap.size+1]?=some (.cells #[.int .i64 (k:Int),.int .i64 q.who,.int .i64 q.room,.int .i64 q.rights,.int .i64 q.track,.slice A q.ssrcs.length cap,.int .i64 q.layer,.int .i64 q.tid] 31 (0,0)) from HKK.out▸Hq_6.out)
 have eg:=Ia k
 have HDO:=Aa (show s.do_ q=s.call q by rw[DS.do_,HKB.out,if_neg (by simp),if_neg HNO.out])
 generalize doF k=F at *
 obtain⟨r,hr⟩:∃ r,r=s.call q:=⟨_,rfl⟩
 rw[← hr] at HCALL HDO
 clear hr
 clear hk10 hkk
 rcases hgo with hz | ⟨hz,hpp⟩
 ·skip
  go_upto_region 8 with fail
  have HQ8:=Aa ((Le.refl w8).drew.heap Hqk.out)
  have KF8:=Aa ((Le.refl w8).drew.cell KF.out)
  refine' Aj 5 5 44 Le (Is _::Is _::Is _::Is _::Is _::[]) ([]::[0]::[1]::[2]::[]::[]) (by kernel_rfl) (by kernel_rfl) (by rfl) (by kernel_rfl) (by kernel_rfl) Le.refl (fun _ _ _ h h'=>h.trans h') ⟨St.is,St.is,St.is,St.is,St.is,trivial⟩ ?m8
  case m8 =>
   simp (maxSteps:=100000000) only [AR,Bv,AK,AC,An,AD,Am,Au,List.set_cons_succ,List.set_cons_zero,List.getElem?_cons_zero,List.getElem?_cons_succ,List.take_succ_cons,List.take_zero,List.drop_succ_cons,List.drop_zero,List.cons_append,List.nil_append,List.length_cons,List.length_nil,Nat.reduceAdd]
   intro x0 x1 x2 x3 x4
   refine⟨⟨?_,?_,?_,?_,?_,trivial⟩,?_⟩
   ·intro wo hw KQ hK;go_simp;exact hK _ _ .r .m
   ·intro wo hw h0 KQ hK;cases h0;have kk:=Af (hw.heap HQ8.out) 0 (.int .i64 (k:Int)) rfl wo (Le.refl _);go_simp;exact hK _ _ .r .m
   ·intro wo hw h1 KQ hK;cases h1;go_simp;exact hK _ _ .r .m
   ·intro wo hw h2 KQ hK;cases h2;have kk:=hw.cell KF8.out;go_simp;exact hK _ _ .r .m
   ·intro wo hw KQ hK;refine cast (if_pos (show Region.wanted _ _=true from rfl)).symm ?_;have hz:=(hw.heap HQ8.out);refine Av 31 (.tmp 3) rfl (cs:=[.int .i64 (k:Int),.int .i64 q.who,.int .i64 q.room,.int .i64 q.rights,.int .i64 q.track,.slice A q.ssrcs.length cap,.int .i64 q.layer,.int .i64 q.tid]) _ rfl Tryz.underlying31 rfl (by kernel_rfl) hz ?_;exact hK _ _ .r .m
   ·intro wz hz h0 h1 h2 h3 h4;cases h0;cases h1;cases h2;cases h3;cases h4;skip
    have HCZ:=HCALL.out wz ((Le.refl w8).drew.trans hz)
    have Hs_7:=Aa ((((Le.refl w8).drew.trans hz)).heap Hs_6.out)
    have Hq_7:=Aa ((((Le.refl w8).drew.trans hz)).heap Hqk.out)
    have Ho_7:=Aa ((((Le.refl w8).drew.trans hz)).heap Ho_6.out)
    have Ht_7:=Aa ((((Le.refl w8).drew.trans hz)).heap Ht_6.out)
    have Hf_7:=Aa ((((Le.refl w8).drew.trans hz)).heap Hf_6.out)
    have LE_7:=Aa (Le.trans LE_6.out ((Le.refl w8).drew.trans hz))
    have hs10:=Ah Hf_7.out
    clear kc9 Hs_6 Hqk Ho_6 Ht_6 Hf_6 LE_6
    go_wp2_with fail
    refine HCZ.mono ?_
    rintro e w10 ⟨rfl,⟨pv3,tv3,sv3,ts3,hd3⟩,hf3⟩
    have HD3:=Aa hd3
    have HF3:=Aa hf3
    clear HCZ HCALL hd3 hf3 KF8 HQ8 eg
    have Hs9:=Aa (HF3.out.heap Hs_7.out (by show ¬ w3.heap.size≤_;omega))
    have Ho9:=Aa (HF3.out.heap Ho_7.out (by show ¬ w3.heap.size≤_;omega))
    have LE9:=Aa (Fp.le_new LE_7.out HF3.out (fun k hk=>Nat.le_trans hb3 hk))
    by_cases hz0:r.2=0
    ·skip
     have HZ0:=Aa hz0
     rw[hz0]
     clear hz0
     have q1:=AF HD3.out.D.hP
     have q2:=AF HD3.out.D.hT
     have q3:=AF HD3.out.D.hS
     go_wp2_with (first | (refine Al rfl 62 (.tmp 6) rfl (cs:=[.int .i64 r.1.mp,.int .i64 r.1.mt,.int .i64 r.1.ms,.int .i64 r.1.ml,pv3,tv3,sv3]) _ rfl Tryz.underlying62 rfl (by kernel_rfl) HD3.out.ha ?_) | (refine Ak rfl 62 (.tmp 4) (.tmp 54) (cs:=[.int .i64 r.1.mp,.int .i64 r.1.mt,.int .i64 r.1.ms,.int .i64 r.1.ml,pv3,tv3,sv3]) rfl rfl rfl (by kernel_rfl) (GM q1 q2 q3) Ho9.out rfl ?_;intro w11 hn hg;have HO11:=Aa hn;have HG11:=Aa hg;clear hn hg))
     rw[HR.out,HDO.out]
     refine BN Tryz.results118 (Bb.mk' rfl HO11.out Tryz.underlying62 rfl (by kernel_rfl)) rfl ?_
     have hno:¬ Gn (fun k=>w3.heap.size≤k) wz (w.heap.size+1+1):=fun h=>h.elim (fun h=>by have h2:w3.heap.size≤_:=h;omega) (fun h=>by have h2:wz.heap.size≤_:=h;have:=Ah Ho_7.out;omega)
     exact⟨Le.mk (AT LE9.out.out HG11.out (by omega) LE9.out.size),fun _=>⟨pv3,tv3,sv3,ts3,rfl,(HD3.out.D.fp (S:=fun k=>k=w.heap.size+1+1) (Fp.of_grown HG11.out rfl) (fun k hk=>hk▸hno)).mono fun k _ hk=>hk.elim (fun h=>Nat.le_trans hb3 h) (fun h=>Nat.le_trans LE_7.out.size h)⟩,fun h=>absurd HZ0.out h⟩
    ·skip
     have HZ0:=Aa hz0
     have hzb:(r.2 !=0)=true:=by rw[bne_iff_ne];exact hz0
     clear hz0
     generalize hrr:r.2=z at *
     go_wp2_with (first | (refine Al rfl 62 (.tmp 2) rfl (cs:=[.int .i64 s.mp,.int .i64 s.mt,.int .i64 s.ms,.int .i64 s.ml,pv,tv,sv]) _ rfl Tryz.underlying62 rfl (by kernel_rfl) Hs9.out ?_) | (refine Ak rfl 62 (.tmp 4) (.tmp 52) (cs:=[.int .i64 s.mp,.int .i64 s.mt,.int .i64 s.ms,.int .i64 s.ml,pv,tv,sv]) rfl rfl rfl (by kernel_rfl) (GM o1 o2 o3) Ho9.out rfl ?_;intro w11 hn hg;have HO11:=Aa hn;have HG11:=Aa hg;clear hn hg))
     rw[HR.out,HDO.out]
     refine BN Tryz.results118 (Bb.mk' rfl HO11.out Tryz.underlying62 rfl (by kernel_rfl)) rfl ?_
     exact⟨Le.mk (AT LE9.out.out HG11.out (by omega) LE9.out.size),fun h=>absurd (hrr▸h) HZ0.out,fun _=>by rw[hrr];rfl⟩
 ·skip
  rw[hpp]
  clear hpp
  go_upto_region 8 with fail
  have HQ8:=Aa ((Le.refl w8).drew.heap Hqk.out)
  have KF8:=Aa ((Le.refl w8).drew.cell KF.out)
  refine' Aj 5 5 44 Le (Is _::Is _::Is _::Is _::Is _::[]) ([]::[0]::[1]::[2]::[]::[]) (by kernel_rfl) (by kernel_rfl) (by rfl) (by kernel_rfl) (by kernel_rfl) Le.refl (fun _ _ _ h h'=>h.trans h') ⟨St.is,St.is,St.is,St.is,St.is,trivial⟩ ?m8
  case m8 =>
   simp (maxSteps:=100000000) only [AR,Bv,AK,AC,An,AD,Am,Au,List.set_cons_succ,List.set_cons_zero,List.getElem?_cons_zero,List.getElem?_cons_succ,List.take_succ_cons,List.take_zero,List.drop_succ_cons,List.drop_zero,List.cons_append,List.nil_append,List.length_cons,List.length_nil,Nat.reduceAdd]
   intro x0 x1 x2 x3 x4
   refine⟨⟨?_,?_,?_,?_,?_,trivial⟩,?_⟩
   ·intro wo hw KQ hK;go_simp;exact hK _ _ .r .m
   ·intro wo hw h0 KQ hK;cases h0;have kk:=Af (hw.heap HQ8.out) 0 (.int .i64 (k:Int)) rfl wo (Le.refl _);go_simp;exact hK _ _ .r .m
   ·intro wo hw h1 KQ hK;cases h1;go_simp;exact hK _ _ .r .m
   ·intro wo hw h2 KQ hK;cases h2;have kk:=hw.cell KF8.out;go_simp;exact hK _ _ .r .m
   ·intro wo hw KQ hK;refine cast (if_pos (show Region.wanted _ _=true from rfl)).symm ?_;have hz:=(hw.heap HQ8.out);refine Av 31 (.tmp 3) rfl (cs:=[.int .i64 (k:Int),.int .i64 q.who,.int .i64 q.room,.int .i64 q.rights,.int .i64 q.track,.slice A q.ssrcs.length cap,.int .i64 q.layer,.int .i64 q.tid]) _ rfl Tryz.underlying31 rfl (by kernel_rfl) hz ?_;exact hK _ _ .r .m
   ·intro wz hz h0 h1 h2 h3 h4;cases h0;cases h1;cases h2;cases h3;cases h4;skip
    have HCZ:=HCALL.out wz ((Le.refl w8).drew.trans hz)
    have Hs_7:=Aa ((((Le.refl w8).drew.trans hz)).heap Hs_6.out)
    have Hq_7:=Aa ((((Le.refl w8).drew.trans hz)).heap Hqk.out)
    have Ho_7:=Aa ((((Le.refl w8).drew.trans hz)).heap Ho_6.out)
    have Ht_7:=Aa ((((Le.refl w8).drew.trans hz)).heap Ht_6.out)
    have Hf_7:=Aa ((((Le.refl w8).drew.trans hz)).heap Hf_6.out)
    have LE_7:=Aa (Le.trans LE_6.out ((Le.refl w8).drew.trans hz))
    have hs10:=Ah Hf_7.out
    clear kc9 Hs_6 Hqk Ho_6 Ht_6 Hf_6 LE_6
    go_wp2_with fail
    refine HCZ.mono ?_
    rintro e w10 ⟨rfl,⟨pv3,tv3,sv3,ts3,hd3⟩,hf3⟩
    have HD3:=Aa hd3
    have HF3:=Aa hf3
    clear HCZ HCALL hd3 hf3 KF8 HQ8 eg
    have Hs9:=Aa (HF3.out.heap Hs_7.out (by show ¬ w3.heap.size≤_;omega))
    have Ho9:=Aa (HF3.out.heap Ho_7.out (by show ¬ w3.heap.size≤_;omega))
    have LE9:=Aa (Fp.le_new LE_7.out HF3.out (fun k hk=>Nat.le_trans hb3 hk))
    by_cases hz0:r.2=0
    ·skip
     have HZ0:=Aa hz0
     rw[hz0]
     clear hz0
     have q1:=AF HD3.out.D.hP
     have q2:=AF HD3.out.D.hT
     have q3:=AF HD3.out.D.hS
     go_wp2_with (first | (refine Al rfl 62 (.tmp 6) rfl (cs:=[.int .i64 r.1.mp,.int .i64 r.1.mt,.int .i64 r.1.ms,.int .i64 r.1.ml,pv3,tv3,sv3]) _ rfl Tryz.underlying62 rfl (by kernel_rfl) HD3.out.ha ?_) | (refine Ak rfl 62 (.tmp 4) (.tmp 54) (cs:=[.int .i64 r.1.mp,.int .i64 r.1.mt,.int .i64 r.1.ms,.int .i64 r.1.ml,pv3,tv3,sv3]) rfl rfl rfl (by kernel_rfl) (GM q1 q2 q3) Ho9.out rfl ?_;intro w11 hn hg;have HO11:=Aa hn;have HG11:=Aa hg;clear hn hg))
     rw[HR.out,HDO.out]
     refine BN Tryz.results118 (Bb.mk' rfl HO11.out Tryz.underlying62 rfl (by kernel_rfl)) rfl ?_
     have hno:¬ Gn (fun k=>w3.heap.size≤k) wz (w.heap.size+1+1):=fun h=>h.elim (fun h=>by have h2:w3.heap.size≤_:=h;omega) (fun h=>by have h2:wz.heap.size≤_:=h;have:=Ah Ho_7.out;omega)
     exact⟨Le.mk (AT LE9.out.out HG11.out (by omega) LE9.out.size),fun _=>⟨pv3,tv3,sv3,ts3,rfl,(HD3.out.D.fp (S:=fun k=>k=w.heap.size+1+1) (Fp.of_grown HG11.out rfl) (fun k hk=>hk▸hno)).mono fun k _ hk=>hk.elim (fun h=>Nat.le_trans hb3 h) (fun h=>Nat.le_trans LE_7.out.size h)⟩,fun h=>absurd HZ0.out h⟩
    ·skip
     have HZ0:=Aa hz0
     have hzb:(r.2 !=0)=true:=by rw[bne_iff_ne];exact hz0
     clear hz0
     generalize hrr:r.2=z at *
     go_wp2_with (first | (refine Al rfl 62 (.tmp 2) rfl (cs:=[.int .i64 s.mp,.int .i64 s.mt,.int .i64 s.ms,.int .i64 s.ml,pv,tv,sv]) _ rfl Tryz.underlying62 rfl (by kernel_rfl) Hs9.out ?_) | (refine Ak rfl 62 (.tmp 4) (.tmp 52) (cs:=[.int .i64 s.mp,.int .i64 s.mt,.int .i64 s.ms,.int .i64 s.ml,pv,tv,sv]) rfl rfl rfl (by kernel_rfl) (GM o1 o2 o3) Ho9.out rfl ?_;intro w11 hn hg;have HO11:=Aa hn;have HG11:=Aa hg;clear hn hg))
     rw[HR.out,HDO.out]
     refine BN Tryz.results118 (Bb.mk' rfl HO11.out Tryz.underlying62 rfl (by kernel_rfl)) rfl ?_
     exact⟨Le.mk (AT LE9.out.out HG11.out (by omega) LE9.out.size),fun h=>absurd (hrr▸h) HZ0.out,fun _=>by rw[hrr];rfl⟩
end
def Cp (o:Option Nat):Value:=.pointer (o.map fun b=>⟨b,0,none⟩)
def TbO (N:Nat→Prop) (w:World) (o:Option Nat) (t:Option Tb):Prop:=match o,t with
 | none,none=>True
 | some b,some t=>DY N w b t
 | _,_=>False
theorem CX {N:Nat→Prop} {w:World} {o:Option Nat} {t:Option Tb} (h:TbO N w o t):Calls Tryz.prog 22 #[Cp o] w (Ax w (.int .u64 (tbE t))):=by
 cases o with
 | none =>
  cases t with
  | some t=>exact h.elim
  | none =>
   show Calls Tryz.prog _ #[.pointer none] w _
   go_enter Tryz.func22,Tryz.ntmps22
   go_wp2_with fail
   go_ret
   exact⟨rfl,(Le.refl w).out⟩
 | some b =>
  cases t with
  | none=>exact h.elim
  | some t =>
   obtain⟨br,bd,h⟩:=h
   have y0:w.cell? ⟨b,0,none⟩=some (.int .u64 t.epoch):=Ae h.ht 0
   clear h
   show Calls Tryz.prog _ #[.pointer (some ⟨b,0,none⟩)] w (Ax w (.int .u64 t.epoch))
   go_enter Tryz.func22,Tryz.ntmps22
   go_wp2_with fail
   go_ret
   exact⟨rfl,(Le.refl w).out⟩
theorem slEnt:SlT Tryz.prog 361 460 (.agg #[.int .u16 0,.slice none 0 0]) 2 32:=⟨Tryz.underlying361,by kernel_rfl,rfl,by omega⟩
theorem stNew (w:World) (n:Nat) (h1:1≤n) (h2:n≤4096):Calls Tryz.prog 112 #[.int .i64 n] w fun e w'=>∃ p,e=.returned (.pointer (some ⟨p,0,none⟩))∧Le w w':=by
 have i1:¬ (n:Int)<1:=by omega
 have i2:¬ 4096<(n:Int):=by omega
 have hmm:=@run_makeMap Tryz.prog
 obtain⟨R,hR⟩:∃ R:Ending→World→Prop,R=fun e w'=>∃ p,e=.returned (.pointer (some ⟨p,0,none⟩))∧Le w w':=⟨_,rfl⟩
 rw[← hR]
 have HR:=Aa hR
 clear hR
 go_enter Tryz.func112,Tryz.ntmps112
 go_wp2_with (refine CC rfl slEnt _ _ rfl (kl:=.i64) (kc:=.i64) (n:=n) rfl rfl (by omega) (by omega) ?_;intro w2 ho2 hle2;have HL2:=Aa hle2;clear ho2 hle2)
 rw[HR.out]
 exact⟨_,rfl,(HL2.out.alloc _).alloc _⟩
def EA (w:World) (p ssrc:Nat):Prop:=∃ cs:List Value,w.heap[p]?=some (.cells (.int .u32 ssrc::cs).toArray 263 (0,0))
theorem dnNew (w:World) (ssrc n:Nat) (h1:1≤n) (h2:n≤4096):Calls Tryz.prog 120 #[.int .u32 ssrc,.int .i64 n] w fun e w'=>∃ p,e=.returned (.pointer (some ⟨p,0,none⟩))∧Le w w'∧w.heap.size≤p∧EA w' p ssrc:=by
 obtain⟨R,hR⟩:∃ R:Ending→World→Prop,R=fun e w'=>∃ p,e=.returned (.pointer (some ⟨p,0,none⟩))∧Le w w'∧w.heap.size≤p∧EA w' p ssrc:=⟨_,rfl⟩
 rw[← hR]
 have HR:=Aa hR
 clear hR
 go_enter Tryz.func120,Tryz.ntmps120
 go_wp2_with fail
 refine (stNew w n h1 h2).mono ?_
 rintro e w2 ⟨p,rfl,hle⟩
 have HL:=Aa hle
 clear hle
 go_wp2_with fail
 rw[HR.out]
 exact⟨w2.heap.size,rfl,HL.out.alloc _,HL.out.size,_,heap_alloc_new w2 _⟩
def cfV (mp mt ms ml:Int):Value:=.agg #[.int .i64 mp,.int .i64 mt,.int .i64 ms,.int .i64 ml]
theorem dlNew (w:World) (mp mt ms ml:Nat) (h1:1≤mp∧mp≤16) (h2:1≤mt∧mt≤16) (h3:1≤ms∧ms≤16) (h4:1≤ml∧ml≤64) :
  Calls Tryz.prog 111 #[cfV mp mt ms ml] w (Ax w (.tuple #[dsV (DS.new mp mt ms ml) (.slice none 0 0) (.slice none 0 0) (.slice none 0 0),.int .i64 0])):=by
 have e1:inB (mp:Int) 1 16=true:=AY.2 (by omega)
 have e2:inB (mt:Int) 1 16=true:=AY.2 (by omega)
 have e3:inB (ms:Int) 1 16=true:=AY.2 (by omega)
 have e4:inB (ml:Int) 1 64=true:=AY.2 (by omega)
 have HA:=Aa (fun W=>Cn (mp:Int) 1 16 W)
 have HB:=Aa (fun W=>Cn (mt:Int) 1 16 W)
 have HC:=Aa (fun W=>Cn (ms:Int) 1 16 W)
 have HD:=Aa (fun W=>Cn (ml:Int) 1 64 W)
 rw[e1] at HA
 rw[e2] at HB
 rw[e3] at HC
 rw[e4] at HD
 clear e1 e2 e3 e4
 obtain⟨R,hR⟩:∃ R,R=Ax w (.tuple #[dsV (DS.new mp mt ms ml) (.slice none 0 0) (.slice none 0 0) (.slice none 0 0),.int .i64 0]):=⟨_,rfl⟩
 rw[← hR]
 have HR:=Aa hR
 clear hR
 show Calls Tryz.prog _ #[.agg #[.int .i64 mp,.int .i64 mt,.int .i64 ms,.int .i64 ml]] w R
 go_enter Tryz.func111,Tryz.ntmps111
 go_upto_region 1 with fail
 have LE:=Aa (Le.refl w)
 have Hc_1:=Aa (show (World.alloc (World.alloc w (.cells #[.int .i64 mp,.int .i64 mt,.int .i64 ms,.int .i64 ml] 36)) (.cells #[.int .i64 0,.int .i64 0,.int .i64 0,.int .i64 0,.slice none 0 0,.slice none 0 0,.slice none 0 0] 62)).heap[w.heap.size]?=some (.cells #[.int .i64 mp,.int .i64 mt,.int .i64 ms,.int .i64 ml] 36 (0,0)) from (heap_alloc (heap_alloc_new _ _)))
 have Ho_1:=Aa (show (World.alloc (World.alloc w (.cells #[.int .i64 mp,.int .i64 mt,.int .i64 ms,.int .i64 ml] 36)) (.cells #[.int .i64 0,.int .i64 0,.int .i64 0,.int .i64 0,.slice none 0 0,.slice none 0 0,.slice none 0 0] 62)).heap[w.heap.size+1]?=some (.cells #[.int .i64 0,.int .i64 0,.int .i64 0,.int .i64 0,.slice none 0 0,.slice none 0 0,.slice none 0 0] 62 (0,0)) from (EZ (by simp)))
 have LE_1:=Aa (show Le w (World.alloc (World.alloc w (.cells #[.int .i64 mp,.int .i64 mt,.int .i64 ms,.int .i64 ml] 36)) (.cells #[.int .i64 0,.int .i64 0,.int .i64 0,.int .i64 0,.slice none 0 0,.slice none 0 0,.slice none 0 0] 62)) from ((LE.out.alloc _).alloc _))
 clear LE
 generalize (World.alloc (World.alloc w (.cells #[.int .i64 mp,.int .i64 mt,.int .i64 ms,.int .i64 ml] 36)) (.cells #[.int .i64 0,.int .i64 0,.int .i64 0,.int .i64 0,.slice none 0 0,.slice none 0 0,.slice none 0 0] 62))=w0 at *
 have hs1:=Ah Ho_1.out
 have y0:=Af Hc_1.out 0 (.int .i64 mp) rfl w0 (Le.refl _)
 go_wp2_with fail
 refine (HA.out _).mono ?_
 rintro e w1 ⟨rfl,hb⟩
 have Hc_2:=Aa (((Le.mk hb)).heap Hc_1.out)
 have Ho_2:=Aa (((Le.mk hb)).heap Ho_1.out)
 have LE_2:=Aa (Le.trans LE_1.out (Le.mk hb))
 have hs2:=Ah Ho_2.out
 clear Hc_1 Ho_1 LE_1 hb y0
 have y1:=Af Hc_2.out 1 (.int .i64 mt) rfl w1 (Le.refl _)
 go_wp2_with fail
 refine (HB.out _).mono ?_
 rintro e w2 ⟨rfl,hb⟩
 have Hc_3:=Aa (((Le.mk hb)).heap Hc_2.out)
 have Ho_3:=Aa (((Le.mk hb)).heap Ho_2.out)
 have LE_3:=Aa (Le.trans LE_2.out (Le.mk hb))
 have hs3:=Ah Ho_3.out
 clear Hc_2 Ho_2 LE_2 hb y1
 have y2:=Af Hc_3.out 2 (.int .i64 ms) rfl w2 (Le.refl _)
 go_wp2_with fail
 refine (HC.out _).mono ?_
 rintro e w3 ⟨rfl,hb⟩
 have Hc_4:=Aa (((Le.mk hb)).heap Hc_3.out)
 have Ho_4:=Aa (((Le.mk hb)).heap Ho_3.out)
 have LE_4:=Aa (Le.trans LE_3.out (Le.mk hb))
 have hs4:=Ah Ho_4.out
 clear Hc_3 Ho_3 LE_3 hb y2
 have y3:=Af Hc_4.out 3 (.int .i64 ml) rfl w3 (Le.refl _)
 go_wp2_with fail
 refine (HD.out _).mono ?_
 rintro e w4 ⟨rfl,hb⟩
 have Hc_5:=Aa (((Le.mk hb)).heap Hc_4.out)
 have Ho_5:=Aa (((Le.mk hb)).heap Ho_4.out)
 have LE_5:=Aa (Le.trans LE_4.out (Le.mk hb))
 have hs5:=Ah Ho_5.out
 clear Hc_4 Ho_4 LE_4 hb y3
 go_wp2_with (first | (refine Al rfl 36 (.tmp 1) rfl (cs:=[.int .i64 mp,.int .i64 mt,.int .i64 ms,.int .i64 ml]) _ rfl Tryz.underlying36 rfl (by kernel_rfl) Hc_5.out ?_) | (refine Ak rfl 62 (.tmp 2) (.tmp 28) (cs:=[.int .i64 mp,.int .i64 mt,.int .i64 ms,.int .i64 ml,.slice none 0 0,.slice none 0 0,.slice none 0 0]) rfl rfl rfl (by kernel_rfl) (by simp[Value.oneCell']) Ho_5.out rfl ?_;intro w5 hn hg;have Hc_6:=Aa (Ai hg Hc_5.out (by simp<;>omega));have Ho_6:=Aa hn;have LE_6:=Aa (Le.mk (AT LE_5.out.out hg (by omega) LE_5.out.size));clear Hc_5 Ho_5 LE_5 hn hg))
 rw[HR.out]
 refine BN Tryz.results111 (Bb.mk' rfl Ho_6.out Tryz.underlying62 rfl (by kernel_rfl)) rfl ?_
 exact⟨rfl,LE_6.out.out⟩
section
open Go.RowKit Go.Shelf
attribute [local go_sem] Oper.semAt_some
structure QS where
 Q:Nat
 A:Nat
 f:Nat
 l:List Nat
def pV (k:Nat):List Value:=[.pointer (some ⟨k,0,none⟩)]
def Et (n:Nat):List Value:=[.int .u64 n]
def ackC (a:Nat×Nat):List Value:=[.int .i64 a.1,.int .u64 a.2]
abbrev Iv (w:World) (R:Nat) (q:QS):Prop:=QAt 359 64 1 w q.Q q.A R q.f (q.l.map pV)
structure BdS where
 R:Nat
 aq:Nat
 aA:Nat
 aF:Nat
 row:Value
 last:Value
 qs:List QS
 acks:List (Nat×Nat)
 lasts:List Nat
structure Bu (M:Nat→Prop) (w:World) (b:Nat) (d:BdS):Prop where
 hb:w.heap[b]?=some (.cells #[d.row,.pointer (some ⟨d.aq,0,none⟩),d.last] 274 (0,0))
 hT:AA M w 275 1 d.row (d.qs.map fun q=>pV q.Q)
 hQ:∀ q∈d.qs,Iv w d.R q
 hK:QAt 356 271 2 w d.aq d.aA (d.qs.length*d.R) d.aF (d.acks.map ackC)
 hL:AA M w 28 1 d.last (d.lasts.map Et)
 Mb:M b
 Mq:∀ q∈d.qs,M q.Q∧M q.A
 Ma:M d.aq∧M d.aA
 dQ:(d.qs.map (·.Q)).Nodup
 dA:(d.qs.map (·.A)).Nodup
 n1:1≤d.qs.length
 n4:d.qs.length≤4
 R1:1≤d.R
 R2:d.R≤1000
 lens:d.lasts.length=d.qs.length
 lt:∀ x∈d.lasts,x<18446744073709551616
 lta:∀ x∈d.acks,x.1<d.qs.length∧x.2<18446744073709551616
section
variable {M M':Nat→Prop} {w w':World} {b:Nat} {d:BdS}
theorem Bu.fp {S:Nat→Prop} (h:Bu M w b d) (hf:Fp S w w') (hs:∀ k,S k→¬ M k):Bu M w' b d :=
 ⟨hf.heap h.hb (fun e=>hs _ e h.Mb),h.hT.fp hf hs,fun q hq=>(h.hQ q hq).fp hf (fun e=>hs _ e (h.Mq q hq).1) (fun e=>hs _ e (h.Mq q hq).2),h.hK.fp hf (fun e=>hs _ e h.Ma.1) (fun e=>hs _ e h.Ma.2),h.hL.fp hf hs,h.Mb,h.Mq,h.Ma,h.dQ,h.dA,h.n1,h.n4,h.R1,h.R2,h.lens,h.lt,h.lta⟩
theorem Bu.le (h:Bu M w b d) (hl:Le w w'):Bu M w' b d:=h.fp (S:=fun _=>False) (Fp.of_le hl) (fun _ h=>h.elim)
def IB (box b:Nat) (row:Value) (W W':World):Prop:=∀ k,k=box∨k=b∨row.ownBlock=some k→W'.heap[k]?=W.heap[k]?
theorem IB.trans {box b:Nat} {row:Value} {A B C:World} (h:IB box b row A B) (h':IB box b row B C):IB box b row A C:=fun k hk=>(h' k hk).trans (h k hk)
theorem IB.refl {box b:Nat} {row:Value} {A:World}:IB box b row A A:=fun k hk=>rfl
theorem all_any (w:World) (b:Nat):Calls Tryz.prog 159 #[.pointer (some ⟨b,0,none⟩)] w fun e w'=>e=.returned (.func (.func 196) #[] #[.pointer (some ⟨w.heap.size,0,none⟩)])∧w'=w.alloc (.cells #[.pointer (some ⟨b,0,none⟩)] 44):=by
 go_enter Tryz.func159,Tryz.ntmps159
 go_wp2_with fail
 go_ret
 exact⟨rfl,rfl⟩
end
theorem FL (n:Nat) (hn:1≤n) (box b:Nat) (c1 c2:Value) (A:Option Addr) (cap:Nat) (Qs:List Nat) (w:World) (hbox:w.heap[box]?=some (.cells #[.pointer (some ⟨b,0,none⟩)] 44 (0,0))) (hb:w.heap[b]?=some (.cells #[.slice A Qs.length cap,c1,c2] 274 (0,0)))
  (hc:Qs≠[]→∃ g cur,A=some ⟨g,0,none⟩∧w.heap[g]?=some (.cells cur 275 (0,0))∧∀ j (hj:j<Qs.length),cur[j]?=some (.pointer (some ⟨Qs[j],0,none⟩))) (hN:Qs.length≤1000) :
  SeqStopsK Fence.wide n Tryz.prog 196 #[.pointer (some ⟨box,0,none⟩)] (fun x:{ q:Nat // q∈Qs }=>#[Value.pointer (some ⟨x.1,0,none⟩)]) (IB box b (.slice A Qs.length cap)) (fun xs=>xs=Qs.attach) (fun pre=>pre <+: Qs.attach) Qs.length w:=fun l J Jx W hW hJ hJx hY h0=>by
 have hboxlt:=Ah hbox
 have hblt:=Ah hb
 have LB:=Aa (show Le w W from Le.mk hW)
 have HB:=Aa hb
 have HBX:=Aa hbox
 have HC:=Aa hc
 have HY:=Aa hY
 clear hJ hJx hY hW
 refine callsIn_of_wp Tryz.func196 rfl trivial ?_ rfl
 simp only[Tryz.ntmps196,List.size_toArray,List.length_cons,List.length_nil,Nat.reduceAdd,Nat.reduceSub,Array.replicate_succ,Array.replicate_zero,List.push_toArray,List.append_toArray,List.nil_append,List.cons_append]
 have y0:W.cell? ⟨box,0,none⟩=some (.pointer (some ⟨b,0,none⟩)):=Ae (LB.out.heap HBX.out) 0
 have y1:W.cell? ⟨b,0,none⟩=some (.slice A Qs.length cap):=Ae (LB.out.heap HB.out) 0
 gi_wp2
 gi_loopw [10] (fun i wr=>∃ k:Nat,k≤Qs.length∧i=.int .i64 k∧Hd (J (Qs.attach.take k) wr)∧Hd (IB box b (.slice A Qs.length cap) W wr)) (fun i _=>Qs.length - (intOf i).toNat)
 case atStart=>exact⟨0,Nat.zero_le _,rfl,Aa h0,Aa IB.refl⟩
 case round =>
  obtain⟨k,hk,rfl,HJ,HK⟩:=hrel
  by_cases hlt:k<Qs.length
  ·obtain⟨g,cur,hA,hg,hcur⟩:=HC.out (by intro e;rw[e] at hlt;simp at hlt)
   subst hA
   have hltI:(k:Int)<(Qs.length:Int):=by omega
   have hcx:wr.cell? ⟨g,k,none⟩=some (.pointer (some ⟨Qs[k],0,none⟩)):=by
    have h1:=(HK.out g (.inr (.inr rfl))).trans (LB.out.heap hg)
    rw[Ae h1]
    exact hcur k hlt
   have q1:IntKind.i64.wrap ((k:Int)+1)=((k+1:Nat):Int):=by rw[IntWalk.i64_in _ (by omega)];simp
   obtain⟨fn,tmps,assign,body,hy,hR⟩:=HY.out _ (⟨Qs[k],List.getElem_mem hlt⟩:{ q:Nat // q∈Qs }) wr HJ.out (by rw[List.length_take,List.length_attach];omega)
   dsimp only at hy
   have htk:Qs.attach.take (k+1)=Qs.attach.take k++[⟨Qs[k],List.getElem_mem hlt⟩]:=by
    rw[List.take_succ_eq_append_getElem (by simpa using hlt),List.getElem_attach]
   have HTK:=Aa htk
   clear htk hg hcur
   gi_wp2
   refine hR.mono ?_
   rintro e W3 (⟨rfl,hJ3,hk3⟩ | ⟨rfl,hJx3⟩)
   ·gi_wp2
    go_roundw
    case rel=>exact⟨k+1,by omega,by simp,Aa (by rw[HTK.out];exact hJ3),Aa (HK.out.trans hk3)⟩
    case measure=>simp[intOf];omega
   ·gi_wp2
    refine bodyPost_ret (results_none rfl _ _ _) rfl ?_
    exact⟨⟨_,rfl⟩,.inr ⟨_,by rw[← HTK.out];exact List.take_prefix _ _,hJx3⟩⟩
  ·obtain rfl:k=Qs.length:=by omega
   gi_wp2
   go_end0
   exact⟨⟨_,rfl⟩,.inl ⟨_,rfl,by have:=HJ.out;rwa [List.take_of_length_le (by simp)] at this⟩⟩
end
end Go.Proofs.YtmcndlofaanjiaaGreat
