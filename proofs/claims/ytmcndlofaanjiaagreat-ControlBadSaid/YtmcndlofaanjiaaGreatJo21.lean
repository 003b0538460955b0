/- Texts of one claim, laid together: Del19 Del6 -/
import Derived.Test.YtmcndlofaanjiaaGreatJo16
import Derived.Test.YtmcndlofaanjiaaGreatJo20
import Derived.Test.YtmcndlofaanjiaaGreatJo11
/- delta: publish. (Written by gen_del19.py.) -/
namespace Go.Proofs.YtmcndlofaanjiaaGreat
open Go.RowKit
set_option linter.unusedVariables false
set_option maxRecDepth 100000
set_option maxHeartbeats 8000000
theorem AA.gr_new {n:Nat} {w w':World} {T:TypeId} {s:Nat} {v:Value} {xs:List (List Value)} {row:Option Nat} (h:AA (fun k=>n≤k) w T s v xs) (hg:Gr row w w') (hr:∀ k,row=some k→k<n):AA (fun k=>n≤k) w' T s v xs :=
 ⟨Bp h.own (Fp.of_gr hg) (fun k hk e=>by have h1:=h.blk k hk;have h2:=hr k e;omega),h.blk,h.len⟩
section
variable {M M':Nat→Prop} {w w' w'':World} {a:Nat} {s:DS} {pv tv sv:Value} {ts:List (Trk×Value)}
theorem Gq (h:DtB M w a s pv tv sv ts) (ok:s.Ok) (fw:s.Few) (q:Rq) (A:Option Addr) (cap:Nat) (hc:Bk w A (CA q.ssrcs)) (hn:q.ssrcs.length≤1000) (hcap:q.ssrcs.length≤cap) (hA:A=none→q.ssrcs.length=0∧cap=0) (hst:∀ W,Fp M w W→Bk W A (CA q.ssrcs)) (hp:s.hasP q.who=true):Calls Tryz.prog 164 #[.pointer (some ⟨a,0,none⟩),rqV q (.slice A q.ssrcs.length cap)] w (DoP M w a (s.publish q)):=by
 obtain⟨l1,l2,l3⟩:=lens ok fw
 obtain⟨hpl,hpw⟩:=GT ok hp
 have e:=List.getElem?_eq_getElem hpl
 have hper:s.per q.who=s.people[s.pAt q.who]:=by rw[DS.per,List.getD,e,Option.getD_some]
 have hpi:=ok.pIn _ (List.getElem_mem hpl)
 obtain⟨gp,cpp,prep,postp,hpv,_,hprep,hgp⟩:=h.D.hP.cut (i:=s.pAt q.who) (x:=Ds s.people[s.pAt q.who]) (by rw[List.getElem?_map,e];rfl)
 rw[List.length_map] at hpv
 subst hpv
 obtain⟨At,ct,htv,_,_,_⟩:=h.D.hT.cells
 rw[List.length_map,h.D.lenT] at htv
 subst htv
 have KR:=Aa (show w.cell? ⟨gp,s.pAt q.who*3+2,none⟩=some (.int .i64 s.people[s.pAt q.who].rights) by
  have h0:prep.length≤s.pAt q.who*3+2:=by rw[hprep];omega
  rw[Ae hgp,List.getElem?_toArray,List.getElem?_append_right h0,hprep,Nat.add_sub_cancel_left];rfl)
 have HPER:=Aa hper
 have hri:=AY.1 hpi.2.2
 clear hper hpw hpi hprep hgp e hp
 have HL:=Aa ((Le.refl w).alloc (.cells #[.int .i64 q.kind,.int .i64 q.who,.int .i64 q.room,.int .i64 q.rights,.int .i64 q.track,.slice A q.ssrcs.length cap,.int .i64 q.layer,.int .i64 q.tid] 31))
 have HX:=Aa (heap_alloc_new w (.cells #[.int .i64 q.kind,.int .i64 q.who,.int .i64 q.room,.int .i64 q.rights,.int .i64 q.track,.slice A q.ssrcs.length cap,.int .i64 q.layer,.int .i64 q.tid] 31))
 have H0:=Aa h
 have HC:=Aa hc
 have HAN:=Aa hA
 have HST:=Aa hst
 obtain⟨R,hR⟩:∃ R,R=DoP M w a (s.publish q):=⟨_,rfl⟩
 rw[← hR]
 have HR:=Aa hR
 clear hR h hc hA hst
 show Calls Tryz.prog 164 #[.pointer (some ⟨a,0,none⟩),.agg #[.int .i64 q.kind,.int .i64 q.who,.int .i64 q.room,.int .i64 q.rights,.int .i64 q.track,.slice A q.ssrcs.length cap,.int .i64 q.layer,.int .i64 q.tid]] w R
 go_enter Tryz.func164,Tryz.ntmps164
 go_upto_region 1 with fail
 generalize w.alloc (.cells #[.int .i64 q.kind,.int .i64 q.who,.int .i64 q.room,.int .i64 q.rights,.int .i64 q.track,.slice A q.ssrcs.length cap,.int .i64 q.layer,.int .i64 q.tid] 31)=w1 at *
 generalize w.heap.size=gx at *
 have HD1:=Aa (H0.out.le (HL.out.trans (Le.refl w1).drew))
 have HXD1:=Aa ((Le.refl w1).drew.heap HX.out)
 refine' Aj 10 6 10 Le (Is _::Is _::Is _::Is _::Is _::Is _::Is _::Is _::Is _::Is _::[]) ([]::[0]::[1]::[]::[3]::[2,4]::[5]::[6]::[6]::[7]::[]) (by kernel_rfl) (by kernel_rfl) (by rfl) (by kernel_rfl) (by kernel_rfl) Le.refl (fun _ _ _ h h'=>h.trans h') ⟨St.is,St.is,St.is,St.is,St.is,St.is,St.is,St.is,St.is,St.is,trivial⟩ ?m1
 case m1 =>
  simp (maxSteps:=100000000) only [AR,Bv,AK,AC,An,AD,Am,Au,Act.put,List.setIfInBounds_toArray,List.set_cons_succ,List.set_cons_zero,List.getElem?_cons_zero,List.getElem?_cons_succ,List.take_succ_cons,List.take_zero,List.drop_succ_cons,List.drop_zero,List.cons_append,List.nil_append,List.length_cons,List.length_nil,Nat.reduceAdd]
  intro x0 x1 x2 x3 x4 x5 x6 x7 x8 x9
  refine⟨⟨?_,?_,?_,?_,?_,?_,?_,?_,?_,?_,trivial⟩,?_⟩
  ·intro wo hw KQ hK;go_simp;exact hK _ _ .r .m
  ·intro wo hw h0 KQ hK;cases h0;go_simp;exact hK _ _ .r .m
  ·intro wo hw h1 KQ hK;cases h1;refine cast (if_pos (show Region.wanted _ _=true from rfl)).symm ?_;have hz:=(hw.heap HD1.out.ha);refine Av 62 (.tmp 11) rfl (cs:=[.int .i64 s.mp,.int .i64 s.mt,.int .i64 s.ms,.int .i64 s.ml,.slice (some ⟨gp,0,none⟩) s.people.length cpp,.slice At s.tracks.length ct,sv]) _ rfl Tryz.underlying62 rfl (by kernel_rfl) hz ?_;exact hK _ _ .r .m
  ·intro wo hw KQ hK;go_simp;exact hK _ _ .r .m
  ·intro wo hw h3 KQ hK;cases h3;have kk:=Af (hw.heap HXD1.out) 1 (.int .i64 q.who) rfl wo (Le.refl _);go_simp;exact hK _ _ .r .m
  ·intro wo hw h2 h4 KQ hK;cases h2;cases h4;go_simp;refine (Cd (HD1.out.D.le hw) ok fw _).mono ?_;rintro e w' ⟨rfl,hb⟩;exact hK _ _ (Le.mk hb) (Is.mk _ _)
  ·intro wo hw h5 KQ hK;cases h5;go_simp;exact hK _ _ .r .m
  ·intro wo hw h6 KQ hK;cases h6;go_simp;exact hK _ _ .r .m
  ·intro wo hw h6 KQ hK;cases h6;go_simp;exact hK _ _ .r .m
  ·intro wo hw h7 KQ hK;cases h7;go_simp;exact hK _ _ .r .m
  ·intro wz hz h0 h1 h2 h3 h4 h5 h6 h7 h8 h9;cases h0;cases h1;cases h2;cases h3;cases h4;cases h5;cases h6;cases h7;cases h8;cases h9;skip
   have HLa:=Aa ((HL.out.trans (Le.refl w1).drew).trans hz)
   have HXa:=Aa (hz.heap HXD1.out)
   clear HD1 HXD1 HX HL hz
   go_upto_region 2 with fail
   have HD2:=Aa (H0.out.le (HLa.out.trans (Le.refl wz).drew))
   have HXD2:=Aa ((Le.refl wz).drew.heap HXa.out)
   refine' Aj 10 6 19 Le (Is _::Is _::Is _::Is _::Is _::Is _::Is _::Is _::Is _::Is _::[]) ([]::[0]::[1]::[]::[3]::[2,4]::[5]::[6]::[6]::[7]::[]) (by kernel_rfl) (by kernel_rfl) (by rfl) (by kernel_rfl) (by kernel_rfl) Le.refl (fun _ _ _ h h'=>h.trans h') ⟨St.is,St.is,St.is,St.is,St.is,St.is,St.is,St.is,St.is,St.is,trivial⟩ ?m2
   case m2 =>
    simp (maxSteps:=100000000) only [AR,Bv,AK,AC,An,AD,Am,Au,Act.put,List.setIfInBounds_toArray,List.set_cons_succ,List.set_cons_zero,List.getElem?_cons_zero,List.getElem?_cons_succ,List.take_succ_cons,List.take_zero,List.drop_succ_cons,List.drop_zero,List.cons_append,List.nil_append,List.length_cons,List.length_nil,Nat.reduceAdd]
    intro x0 x1 x2 x3 x4 x5 x6 x7 x8 x9
    refine⟨⟨?_,?_,?_,?_,?_,?_,?_,?_,?_,?_,trivial⟩,?_⟩
    ·intro wo hw KQ hK;go_simp;exact hK _ _ .r .m
    ·intro wo hw h0 KQ hK;cases h0;go_simp;exact hK _ _ .r .m
    ·intro wo hw h1 KQ hK;cases h1;refine cast (if_pos (show Region.wanted _ _=true from rfl)).symm ?_;have hz:=(hw.heap HD2.out.ha);refine Av 62 (.tmp 20) rfl (cs:=[.int .i64 s.mp,.int .i64 s.mt,.int .i64 s.ms,.int .i64 s.ml,.slice (some ⟨gp,0,none⟩) s.people.length cpp,.slice At s.tracks.length ct,sv]) _ rfl Tryz.underlying62 rfl (by kernel_rfl) hz ?_;exact hK _ _ .r .m
    ·intro wo hw KQ hK;go_simp;exact hK _ _ .r .m
    ·intro wo hw h3 KQ hK;cases h3;have kk:=Af (hw.heap HXD2.out) 4 (.int .i64 q.track) rfl wo (Le.refl _);go_simp;exact hK _ _ .r .m
    ·intro wo hw h2 h4 KQ hK;cases h2;cases h4;go_simp;refine (Em (HD2.out.D.le hw) ok fw _).mono ?_;rintro e w' ⟨rfl,hb⟩;exact hK _ _ (Le.mk hb) (Is.mk _ _)
    ·intro wo hw h5 KQ hK;cases h5;go_simp;exact hK _ _ .r .m
    ·intro wo hw h6 KQ hK;cases h6;go_simp;exact hK _ _ .r .m
    ·intro wo hw h6 KQ hK;cases h6;go_simp;exact hK _ _ .r .m
    ·intro wo hw h7 KQ hK;cases h7;go_simp;exact hK _ _ .r .m
    ·intro wz hz h0 h1 h2 h3 h4 h5 h6 h7 h8 h9;cases h0;cases h1;cases h2;cases h3;cases h4;cases h5;cases h6;cases h7;cases h8;cases h9;skip
     have HLb:=Aa ((HLa.out.trans (Le.refl _).drew).trans hz)
     have HXb:=Aa (hz.heap HXD2.out)
     clear HD2 HXD2 HXa HLa hz
     have HZ:=Aa (H0.out.le HLb.out)
     have hiI:(s.pAt q.who:Int)<(s.people.length:Int):=by omega
     have y4:wz.cell? ⟨a,4,none⟩=some (.slice (some ⟨gp,0,none⟩) s.people.length cpp):=Ae HZ.out.ha 4
     have y5:=HLb.out.cell KR.out
     by_cases hr:s.people[s.pAt q.who].rights%2=0
     ·have HE:=Aa (show s.publish q=(s,24) by rw[DS.publish,HPER.out,if_pos hr])
      rcases (show s.people[s.pAt q.who].rights=0∨s.people[s.pAt q.who].rights=2 by omega) with hv | hv <;>
      ·rw[hv] at y5
       clear hr hv hri
       go_wp2_with fail
       rw[HR.out,HE.out]
       exact DoP.same H0.out HLb.out rfl
     have HRT:=Aa hr
     have hrv:s.people[s.pAt q.who].rights=1∨s.people[s.pAt q.who].rights=3:=by omega
     have hpure:wz.cell? ⟨gp,s.pAt q.who*3+2,none⟩=some (.int .i64 1)∨wz.cell? ⟨gp,s.pAt q.who*3+2,none⟩=some (.int .i64 3):=by
      rcases hrv with e | e
      ·left;rw[y5,e]
      ·right;rw[y5,e]
     clear y5 hrv hri hr
     have z4:wz.cell? ⟨gx,4,none⟩=some (.int .i64 q.track):=Ae HXb.out 4
     have z5:wz.cell? ⟨gx,5,none⟩=some (.slice A q.ssrcs.length cap):=Ae HXb.out 5
     rcases hpure with y5 | y5 <;>
     ·go_wp2_with fail
      clear y4 y5
      refine (Cn q.track 1 999 wz).mono ?_
      rintro e w3 ⟨rfl,hb⟩
      have HL3:=Aa (HLb.out.trans (Le.mk hb))
      have HX3:=Aa ((Le.mk hb).heap HXb.out)
      have z6:=(Le.mk hb).cell z5
      clear hb HLb HXb z4 z5 HZ hiI
      cases hb1:inB q.track 1 999
      ·have HE:=Aa (show s.publish q=(s,1) by rw[DS.publish,HPER.out,if_neg HRT.out,hb1];rfl)
       clear hb1
       go_wp2_with fail
       rw[HR.out,HE.out]
       exact DoP.same H0.out HL3.out rfl
      have HB1:=Aa hb1
      have HMY:=Aa (GV w3 A q.ssrcs cap (AI HC.out HL3.out) hn hcap)
      clear hb1
      go_wp2_with fail
      refine HMY.out.mono ?_
      rintro e w4 ⟨rfl,hb⟩
      have HL4:=Aa (HL3.out.trans (Le.mk hb))
      have HX4:=Aa ((Le.mk hb).heap HX3.out)
      clear hb HMY z6 HX3 HL3
      cases hm:Ew q.ssrcs
      ·have HE:=Aa (show s.publish q=(s,1) by rw[DS.publish,HPER.out,if_neg HRT.out,HB1.out,hm];rfl)
       clear hm
       go_wp2_with fail
       rw[HR.out,HE.out]
       exact DoP.same H0.out HL4.out rfl
      have HM:=Aa hm
      clear hm
      cases hT:s.hasT q.track
      rotate_left
      ·have HE:=Aa (show s.publish q=(s,22) by rw[DS.publish,HPER.out,if_neg HRT.out,HB1.out,HM.out,hT];rfl)
       clear hT
       go_upto_region 7 with fail
       have HD7:=Aa (H0.out.le (HL4.out.trans (Le.refl w4).drew))
       have HX7:=Aa ((Le.refl w4).drew.heap HX4.out)
       have HC7:=Aa (AI HC.out (HL4.out.trans (Le.refl w4).drew))
       refine' Aj 9 9 50 Le (Is _::Is _::Is _::Is _::Is _::Is _::Is _::Is _::Is _::[]) ([]::[0]::[1]::[1,2]::[1,3]::[1]::[1,5]::[1,4,6]::[1,7]::[]) (by kernel_rfl) (by kernel_rfl) (by rfl) (by kernel_rfl) (by kernel_rfl) Le.refl (fun _ _ _ h h'=>h.trans h') ⟨St.is,St.is,St.is,St.is,St.is,St.is,St.is,St.is,St.is,trivial⟩ ?m7
       case m7 =>
        simp (maxSteps:=100000000) only [AR,Bv,AK,AC,An,AD,Am,Au,List.set_cons_succ,List.set_cons_zero,List.getElem?_cons_zero,List.getElem?_cons_succ,List.take_succ_cons,List.take_zero,List.drop_succ_cons,List.drop_zero,List.cons_append,List.nil_append,List.length_cons,List.length_nil,Nat.reduceAdd]
        intro x0 x1 x2 x3 x4 x5 x6 x7 x8
        refine⟨⟨?_,?_,?_,?_,?_,?_,?_,?_,?_,trivial⟩,?_⟩
        ·intro wo hw KQ hK;go_simp;exact hK _ _ .r .m
        ·intro wo hw h0 KQ hK;cases h0;go_simp;exact hK _ _ .r .m
        ·intro wo hw h1 KQ hK;cases h1;go_simp;exact hK _ _ .r .m
        ·intro wo hw h1 h2 KQ hK;cases h1;cases h2;go_simp;exact hK _ _ .r .m
        ·intro wo hw h1 h3 KQ hK;cases h1;cases h3;go_simp;exact hK _ _ .r .m
        ·intro wo hw h1 KQ hK;cases h1;go_simp;exact hK _ _ .r .m
        ·intro wo hw h1 h5 KQ hK;cases h1;cases h5;go_simp;exact hK _ _ .r .m
        ·intro wo hw h1 h4 h6 KQ hK;cases h1;cases h4;cases h6;go_simp;exact hK _ _ .r .m
        ·intro wo hw h1 h7 KQ hK;cases h1;cases h7;go_simp;exact hK _ _ .r .m
        ·intro wz hz h0 h1 h2 h3 h4 h5 h6 h7 h8;cases h0;cases h1;cases h2;cases h3;cases h4;cases h5;cases h6;cases h7;cases h8;skip
         have HL7:=Aa ((HL4.out.trans (Le.refl w4).drew).trans hz)
         clear HD7 HX7 HC7 HX4 HL4 hz
         go_wp2_with fail
         rw[HR.out,HE.out]
         exact DoP.same H0.out HL7.out rfl
      have HT:=Aa hT
      clear hT
      go_upto_region 7 with fail
      have HD7:=Aa (H0.out.le (HL4.out.trans (Le.refl w4).drew))
      have HX7:=Aa ((Le.refl w4).drew.heap HX4.out)
      have HC7:=Aa (AI HC.out (HL4.out.trans (Le.refl w4).drew))
      refine' Aj 9 9 50 Le (Is _::Is _::Is _::Is _::Is _::Is _::Is _::Is _::Is _::[]) ([]::[0]::[1]::[1,2]::[1,3]::[1]::[1,5]::[1,4,6]::[1,7]::[]) (by kernel_rfl) (by kernel_rfl) (by rfl) (by kernel_rfl) (by kernel_rfl) Le.refl (fun _ _ _ h h'=>h.trans h') ⟨St.is,St.is,St.is,St.is,St.is,St.is,St.is,St.is,St.is,trivial⟩ ?m7
      case m7 =>
       simp (maxSteps:=100000000) only [AR,Bv,AK,AC,An,AD,Am,Au,List.set_cons_succ,List.set_cons_zero,List.getElem?_cons_zero,List.getElem?_cons_succ,List.take_succ_cons,List.take_zero,List.drop_succ_cons,List.drop_zero,List.cons_append,List.nil_append,List.length_cons,List.length_nil,Nat.reduceAdd]
       intro x0 x1 x2 x3 x4 x5 x6 x7 x8
       refine⟨⟨?_,?_,?_,?_,?_,?_,?_,?_,?_,trivial⟩,?_⟩
       ·intro wo hw KQ hK;go_simp;exact hK _ _ .r .m
       ·intro wo hw h0 KQ hK;cases h0;go_simp;exact hK _ _ .r .m
       ·intro wo hw h1 KQ hK;cases h1;go_simp;exact hK _ _ .r .m
       ·intro wo hw h1 h2 KQ hK;cases h1;cases h2;go_simp;exact hK _ _ .r .m
       ·intro wo hw h1 h3 KQ hK;cases h1;cases h3;refine cast (if_pos (show Region.wanted _ _=true from rfl)).symm ?_;have hz:=(hw.heap HD7.out.ha);refine Av 62 (.tmp 53) rfl (cs:=[.int .i64 s.mp,.int .i64 s.mt,.int .i64 s.ms,.int .i64 s.ml,.slice (some ⟨gp,0,none⟩) s.people.length cpp,.slice At s.tracks.length ct,sv]) _ rfl Tryz.underlying62 rfl (by kernel_rfl) hz ?_;exact hK _ _ .r .m
       ·intro wo hw h1 KQ hK;cases h1;go_simp;exact hK _ _ .r .m
       ·intro wo hw h1 h5 KQ hK;cases h1;cases h5;have kk:=Af (hw.heap HX7.out) 5 (.slice A q.ssrcs.length cap) rfl wo (Le.refl _);go_simp;exact hK _ _ .r .m
       ·intro wo hw h1 h4 h6 KQ hK;cases h1;cases h4;cases h6;go_simp;refine (FF (HD7.out.D.le hw) ok fw A q.ssrcs cap (AI HC7.out hw) (by omega)).mono ?_;rintro e w' ⟨rfl,hb⟩;exact hK _ _ (Le.mk hb) (Is.mk _ _)
       ·intro wo hw h1 h7 KQ hK;cases h1;cases h7;go_simp;exact hK _ _ .r .m
       ·intro wz hz h0 h1 h2 h3 h4 h5 h6 h7 h8;cases h0;cases h1;cases h2;cases h3;cases h4;cases h5;cases h6;cases h7;cases h8;skip
        have HL7:=Aa ((HL4.out.trans (Le.refl w4).drew).trans hz)
        have HX7b:=Aa (hz.heap HX7.out)
        clear HD7 HX7 HC7 HX4 HL4 hz
        cases hk:s.taken q.ssrcs
        rotate_left
        ·have HE:=Aa (show s.publish q=(s,22) by rw[DS.publish,HPER.out,if_neg HRT.out,HB1.out,HM.out,HT.out,hk];rfl)
         clear hk
         go_wp2_with fail
         rw[HR.out,HE.out]
         exact DoP.same H0.out HL7.out rfl
        have HK:=Aa hk
        clear hk
        have HZ6:=Aa (H0.out.le HL7.out)
        have z6:wz.cell? ⟨a,5,none⟩=some (.slice At s.tracks.length ct):=Ae HZ6.out.ha 5
        have z3:wz.cell? ⟨a,1,none⟩=some (.int .i64 s.mt):=Ae HZ6.out.ha 1
        go_upto_region 9 with fail
        by_cases hml:s.mt≤(s.tracks.length:Int)
        ·have HE:=Aa (show s.publish q=(s,20) by rw[DS.publish,HPER.out,if_neg HRT.out,HB1.out,HM.out,HT.out,HK.out,if_neg (by simp),if_neg (by simp),if_pos hml])
         go_quiet (fail)
         go_wp2_with fail
         rw[HR.out,HE.out]
         exact DoP.same H0.out (HL7.out.drewN _) rfl
        have HE:=Aa (show s.publish q=(s.setTracks (AV s.tracks (s.tAt q.track) ⟨q.track,q.who,0,q.ssrcs⟩),0) by rw[DS.publish,HPER.out,if_neg HRT.out,HB1.out,HM.out,HT.out,HK.out,if_neg (by simp),if_neg (by simp),if_neg hml])
        go_quiet (fail)
        have HLq:=Aa (HL7.out.drewN nq)
        have HXq:=Aa (((Le.refl wz).drewN nq).heap HX7b.out)
        clear z6 z3 HZ6 hml HL7 HX7b
        generalize wz.drewN nq=wz8 at *
        go_upto_region 11 with fail
        have HD8:=Aa (H0.out.le (HLq.out.trans (Le.refl wz8).drew))
        have HX8:=Aa ((Le.refl wz8).drew.heap HXq.out)
        have HC8:=Aa (AI HC.out (HLq.out.trans (Le.refl wz8).drew))
        refine' AB 15 18 18 71 Le (Gr (Value.slice At s.tracks.length ct).ownBlock) (IsD _::IsD _::IsD _::IsD _::IsD _::IsD _::IsD _::IsD _::IsD _::IsD _::IsD _::IsD _::(fun _ v W=>AA (fun k=>wz8.drew.heap.size≤k) W 110 1 v (q.ssrcs.map DI))::(fun _ v W=>∃ u,v=.agg #[.int .i64 q.track,.int .i64 q.who,.int .i64 0,u]∧AA (fun k=>wz8.drew.heap.size≤k) W 110 1 u (q.ssrcs.map DI))::(fun _ v W=>∃ u,BsF (Value.slice At s.tracks.length ct).ownBlock [.int .i64 q.track,.int .i64 q.who,.int .i64 0,u] 182 v W∧AA (fun k=>wz8.drew.heap.size≤k) W 110 1 u (q.ssrcs.map DI))::(fun _ v W=>∃ u,Io M wz8.drew 182 4 (Value.slice At s.tracks.length ct).ownBlock (AV (ts.map trC) (s.tAt q.track) [.int .i64 q.track,.int .i64 q.who,.int .i64 0,u]) v W∧AA (fun k=>wz8.drew.heap.size≤k) W 110 1 u (q.ssrcs.map DI))::IsD _::IsD _::[]) ([]::[]::[1]::[2]::[3]::[]::[]::[6]::[]::[8]::[]::[10]::[11]::[7,9,12]::[13]::[4,5,14]::[0]::[16]::[]) (by kernel_rfl) (by kernel_rfl) (by rfl) (by kernel_rfl) (by kernel_rfl) Le.refl (fun _ _ _ h h'=>h.trans h') (fun _ _ _ h h'=>h.trans h') (fun _ _ h=>Gr.of_le h) ⟨StQ.is,StQ.is,StQ.is,StQ.is,StQ.is,StQ.is,StQ.is,StQ.is,StQ.is,StQ.is,StQ.is,StQ.is,(fun _ _ _ _ hb h=>AA.gr_new h hb (fun k hk=>HD8.out.D.hT.lt hk)),(fun _ _ _ _ hb h=>Exists.elim h fun u h=>⟨u,h.1,AA.gr_new h.2 hb (fun k hk=>HD8.out.D.hT.lt hk)⟩),(fun _ _ _ _ hb h=>Exists.elim h fun u h=>⟨u,BsF.gr h.1 hb,AA.gr_new h.2 hb (fun k hk=>HD8.out.D.hT.lt hk)⟩),(fun _ _ _ _ hb h=>Exists.elim h fun u h=>⟨u,Io.le h.1 hb,h.2.le hb⟩),StQ.is,StQ.is,trivial⟩ ?m11
        case m11 =>
         simp (maxSteps:=100000000) only [AR,DU,Nat.reduceBEq,cond_true,cond_false,AU,AH,AE,B6,AD,Am,Au,List.set_cons_succ,List.set_cons_zero,List.map_cons,List.getElem?_cons_zero,List.getElem?_cons_succ,Option.getD_some,List.map_nil,List.take_succ_cons,List.take_zero,List.drop_succ_cons,List.drop_zero,List.cons_append,List.nil_append,List.length_cons,List.length_nil,Nat.reduceAdd]
         intro x0 x1 x2 x3 x4 x5 x6 x7 x8 x9 x10 x11 x12 x13 x14 x15 x16 x17
         refine⟨⟨?_,?_,?_,?_,?_,?_,?_,?_,?_,?_,?_,?_,?_,?_,?_,?_,?_,?_,trivial⟩,?_⟩
         ·intro wo hw KQ hK;go_simp;exact hK _ _ .r .m
         ·intro wo hw KQ hK;go_simp;exact hK _ _ .r .m
         ·intro wo hw h1 KQ hK;cases h1;go_simp;exact hK _ _ .r .m
         ·intro wo hw h2 KQ hK;cases h2;go_simp;exact hK _ _ .r .m
         ·intro wo hw h3 KQ hK;cases h3;have kk:=Af (hw.heap HD8.out.ha (HD8.out.D.hT.row_ne HD8.out.ha (by decide))) 5 (.slice At s.tracks.length ct) rfl wo (Le.refl _);go_simp;exact hK _ _ .r .m
         ·intro wo hw KQ hK;go_simp;exact hK _ _ .r .m
         ·intro wo hw KQ hK;go_simp;exact hK _ _ .r .m
         ·intro wo hw h6 KQ hK;cases h6;have kk:=Af (hw.heap HX8.out (HD8.out.D.hT.row_ne HX8.out (by decide))) 4 (.int .i64 q.track) rfl wo (Le.refl _);go_simp;exact hK _ _ .r .m
         ·intro wo hw KQ hK;go_simp;exact hK _ _ .r .m
         ·intro wo hw h8 KQ hK;cases h8;have kk:=Af (hw.heap HX8.out (HD8.out.D.hT.row_ne HX8.out (by decide))) 1 (.int .i64 q.who) rfl wo (Le.refl _);go_simp;exact hK _ _ .r .m
         ·intro wo hw KQ hK;go_simp;exact hK _ _ .r .m
         ·intro wo hw h10 KQ hK;cases h10;have kk:=Af (hw.heap HX8.out (HD8.out.D.hT.row_ne HX8.out (by decide))) 5 (.slice A q.ssrcs.length cap) rfl wo (Le.refl _);go_simp;exact hK _ _ .r .m
         ·intro wo hw h11 KQ hK;cases h11;go_simp;refine (C5 wo A q.ssrcs.length cap (CA q.ssrcs) (HST.out wo ((Fp.of_le (HLq.out.trans (Le.refl wz8).drew)).trans ((Fp.of_gr hw).mono (fun k hk=>HD8.out.D.hT.blk k hk)))) (by rw[CA,List.length_map];omega) HAN.out (by omega) (by intro u hu;rw[CA] at hu;obtain⟨z,_,rfl⟩:=List.mem_map.1 hu;rfl)).mono ?_;rintro e w' ⟨v8,rfl,hown,hle8⟩;exact hK _ _ hle8 ((AA.of_base (ys:=q.ssrcs.map DI) (by rw[Dn];exact hown) (by rw[List.length_map]) (by intro y hy;obtain⟨p,_,rfl⟩:=List.mem_map.1 hy;rfl)).mono (fun k _ hk=>Nat.le_trans hw.size hk))
         ·intro wo hw h7 h9 h12 KQ hK;cases h7;cases h9;obtain⟨A12,c12,hv12,_⟩:=AA.cells h12;rw[List.length_map] at hv12;subst hv12;go_simp;exact hK _ _ (Le.refl _) ⟨_,rfl,h12⟩
         ·intro wo hw h13 KQ hK;obtain⟨u13,rfl,HO13⟩:=h13;go_simp;exact hK _ _ ((Le.refl _).alloc _) ⟨u13,BsF.new [.int .i64 q.track,.int .i64 q.who,.int .i64 0,u13] _ (fun k hk=>Nat.lt_of_lt_of_le (HD8.out.D.hT.lt hk) hw.size),HO13.le ((Le.refl _).alloc _)⟩
         ·intro wo hw h4 h5 h14 KQ hK;cases h4;cases h5;obtain⟨u14,⟨HBS⟩,HO14⟩:=h14;go_simp;obtain⟨gq,rfl,hq1,hq2⟩:=HBS;have hu14:=AF HO14;refine (ins_trk (HD8.out.D.hT.le hw) (by rw[List.length_map,HD8.out.D.lenT];omega) (s.tAt q.track) (by rw[List.length_map,HD8.out.D.lenT];exact tAt_le s q.track) [.int .i64 q.track,.int .i64 q.who,.int .i64 0,u14] rfl (by intro u hu;simp only[List.mem_cons,List.not_mem_nil,or_false] at hu;rcases hu with rfl | rfl | rfl | rfl;rfl;rfl;rfl;exact hu14) (Ff HD8.out.D) gq hq2 hq1).mono ?_;rintro e w' ⟨v',rfl,ho,hf⟩;exact hK _ _ (Gr.of_fp hf) ⟨u14,⟨ho.mono (fun k _ hk=>hk.elim .inl fun hk=>.inr (Nat.le_trans hw.size hk)),(Gr.of_le hw).trans (Gr.of_fp hf)⟩,AA.gr_new HO14 (Gr.of_fp hf) (fun k hk=>HD8.out.D.hT.lt hk)⟩
         ·intro wo hw h0 KQ hK;cases h0;go_simp;exact hK _ _ .r .m
         ·intro wo hw h16 KQ hK;cases h16;go_simp;exact hK _ _ .r .m
         ·intro wz hz h0 h1 h2 h3 h4 h5 h6 h7 h8 h9 h10 h11 h12 h13 h14 h15 h16 h17;cases h0;cases h1;cases h2;cases h3;cases h4;cases h5;cases h6;cases h7;cases h8;cases h9;cases h10;cases h11;obtain⟨u13,rfl,HO13⟩:=h13;obtain⟨u14,⟨HBS⟩,HO14⟩:=h14;obtain⟨u15,⟨HI1,HI2⟩,HO15⟩:=h15;cases h16;cases h17;skip
          have HF9:=Aa (Fp.of_gr HI2)
          have HO9:=Aa HI1
          have HA9:=Aa (HF9.out.heap HD8.out.ha (fun e=>HD8.out.D.hT.row_ne HD8.out.ha (by decide) e))
          have H1C:=Aa (AF HI1)
          have HO15b:=Aa HO15
          clear HI1 HI2
          go_wp2_with (refine Ao rfl 59 (.tmp 88) (.tmp 86) rfl [.int .i64 s.mp,.int .i64 s.mt,.int .i64 s.ms,.int .i64 s.ml,.slice (some ⟨gp,0,none⟩) s.people.length cpp] (v:=x15) (old:=.slice At s.tracks.length ct) (post:=[sv]) rfl rfl (by kernel_rfl) H1C.out HA9.out ?_;intro w9 h9 hg9;have H9:=Aa h9;have HG9:=Aa hg9;clear h9 hg9)
          rw[HR.out,HE.out]
          obtain⟨h8,h9⟩:=HD8.out.newTracks (ts':=AV ts (s.tAt q.track) (⟨q.track,q.who,0,q.ssrcs⟩,u15)) HF9.out (by rw[C8];exact HO9.out) (fun t ht=>by
           rcases Bm.1 ht with rfl | ht
           ·exact .inr (HO15b.out.mono fun k _ hk=>.inr hk)
           ·exact .inl ht) HG9.out H9.out
          rw[C8,HD8.out.D.eT] at h8
          have hle:=HLq.out.trans (Le.refl wz8).drew
          exact⟨rfl,⟨_,_,_,_,h8.mono fun k _ hk=>hk.elim .inl fun hk=>.inr (Nat.le_trans hle.size hk)⟩,(Fp.of_le hle).trans h9⟩
end
section
variable {M M':Nat→Prop} {w w':World} {a:Nat} {s:DS} {pv tv sv:Value} {ts:List (Trk×Value)}
theorem Gu (h:DtB M w a s pv tv sv ts) (ok:s.Ok) (fw:s.Few) (q:Rq) (qs:Value) (hq1:qs.oneCell'=true):Calls Tryz.prog 171 #[.pointer (some ⟨a,0,none⟩),rqV q qs] w (DoP M w a (s.selects q)):=by
 obtain⟨l1,l2,l3⟩:=lens ok fw
 have HL:=Aa ((Le.refl w).alloc (.cells #[.int .i64 q.kind,.int .i64 q.who,.int .i64 q.room,.int .i64 q.rights,.int .i64 q.track,qs,.int .i64 q.layer,.int .i64 q.tid] 31))
 have HX:=Aa (heap_alloc_new w (.cells #[.int .i64 q.kind,.int .i64 q.who,.int .i64 q.room,.int .i64 q.rights,.int .i64 q.track,qs,.int .i64 q.layer,.int .i64 q.tid] 31))
 have H:=Aa (h.le HL.out)
 have H0:=Aa h
 obtain⟨R,hR⟩:∃ R,R=DoP M w a (s.selects q):=⟨_,rfl⟩
 rw[← hR]
 have HR:=Aa hR
 clear hR h
 show Calls Tryz.prog 171 #[.pointer (some ⟨a,0,none⟩),.agg #[.int .i64 q.kind,.int .i64 q.who,.int .i64 q.room,.int .i64 q.rights,.int .i64 q.track,qs,.int .i64 q.layer,.int .i64 q.tid]] w R
 go_enter Tryz.func171,Tryz.ntmps171
 go_upto_region 1 with fail
 generalize w.alloc (.cells #[.int .i64 q.kind,.int .i64 q.who,.int .i64 q.room,.int .i64 q.rights,.int .i64 q.track,qs,.int .i64 q.layer,.int .i64 q.tid] 31)=w1 at *
 generalize w.heap.size=gx at *
 have HD:=Aa (H.out.le (Le.refl w1).drew)
 have HXD:=Aa ((Le.refl w1).drew.heap HX.out)
 refine' Aj 12 8 8 Le (Is _::Is _::Is _::Is _::Is _::Is _::Is _::Is _::Is _::Is _::Is _::Is _::[]) ([]::[0]::[1]::[]::[3]::[]::[5]::[2,4,6]::[7]::[8]::[8]::[9]::[]) (by kernel_rfl) (by kernel_rfl) (by rfl) (by kernel_rfl) (by kernel_rfl) Le.refl (fun _ _ _ h h'=>h.trans h') ⟨St.is,St.is,St.is,St.is,St.is,St.is,St.is,St.is,St.is,St.is,St.is,St.is,trivial⟩ ?m1
 case m1 =>
  simp (maxSteps:=100000000) only [AR,Bv,AK,AC,An,AD,Am,Au,Act.put,List.setIfInBounds_toArray,List.set_cons_succ,List.set_cons_zero,List.getElem?_cons_zero,List.getElem?_cons_succ,List.take_succ_cons,List.take_zero,List.drop_succ_cons,List.drop_zero,List.cons_append,List.nil_append,List.length_cons,List.length_nil,Nat.reduceAdd]
  intro x0 x1 x2 x3 x4 x5 x6 x7 x8 x9 x10 x11
  refine⟨⟨?_,?_,?_,?_,?_,?_,?_,?_,?_,?_,?_,?_,trivial⟩,?_⟩
  ·intro wo hw KQ hK;go_simp;exact hK _ _ .r .m
  ·intro wo hw h0 KQ hK;cases h0;go_simp;exact hK _ _ .r .m
  ·intro wo hw h1 KQ hK;cases h1;refine cast (if_pos (show Region.wanted _ _=true from rfl)).symm ?_;have hz:=(hw.heap HD.out.ha);refine Av 62 (.tmp 9) rfl (cs:=[.int .i64 s.mp,.int .i64 s.mt,.int .i64 s.ms,.int .i64 s.ml,pv,tv,sv]) _ rfl Tryz.underlying62 rfl (by kernel_rfl) hz ?_;exact hK _ _ .r .m
  ·intro wo hw KQ hK;go_simp;exact hK _ _ .r .m
  ·intro wo hw h3 KQ hK;cases h3;have kk:=Af (hw.heap HXD.out) 1 (.int .i64 q.who) rfl wo (Le.refl _);go_simp;exact hK _ _ .r .m
  ·intro wo hw KQ hK;go_simp;exact hK _ _ .r .m
  ·intro wo hw h5 KQ hK;cases h5;have kk:=Af (hw.heap HXD.out) 4 (.int .i64 q.track) rfl wo (Le.refl _);go_simp;exact hK _ _ .r .m
  ·intro wo hw h2 h4 h6 KQ hK;cases h2;cases h4;cases h6;go_simp;refine (D2 (HD.out.D.le hw) ok fw _ _).mono ?_;rintro e w' ⟨rfl,hb⟩;exact hK _ _ (Le.mk hb) (Is.mk _ _)
  ·intro wo hw h7 KQ hK;cases h7;go_simp;exact hK _ _ .r .m
  ·intro wo hw h8 KQ hK;cases h8;go_simp;exact hK _ _ .r .m
  ·intro wo hw h8 KQ hK;cases h8;go_simp;exact hK _ _ .r .m
  ·intro wo hw h9 KQ hK;cases h9;go_simp;exact hK _ _ .r .m
  ·intro wz hz h0 h1 h2 h3 h4 h5 h6 h7 h8 h9 h10 h11;cases h0;cases h1;cases h2;cases h3;cases h4;cases h5;cases h6;cases h7;cases h8;cases h9;cases h10;cases h11;skip
   have HLZ:=Aa ((HL.out.trans (Le.refl w1).drew).trans hz)
   have HZ:=Aa (H0.out.le HLZ.out)
   have HXZ:=Aa (hz.heap HXD.out)
   clear HD HXD HX H HL
   cases hh:s.hasS q.who q.track
   ·have HE:=Aa (show s.selects q=(s,21) by rw[DS.selects,hh];rfl)
    clear hh
    go_wp2_with fail
    rw[HR.out,HE.out]
    exact DoP.same H0.out HLZ.out rfl
   ·obtain⟨hlt,hsw,hst⟩:=D9 ok hh
    have HH:=Aa hh
    have e:=List.getElem?_eq_getElem hlt
    have hsub:s.sub q.who q.track=s.subs[s.sAt q.who q.track]:=by rw[DS.sub,List.getD,e,Option.getD_some]
    have HSUB:=Aa hsub
    obtain⟨g,cap,pre,post,hsv,hMg,hpre,hg⟩:=HZ.out.D.hS.cut (i:=s.sAt q.who q.track) (x:=BC s.subs[s.sAt q.who q.track]) (by rw[List.getElem?_map,e];rfl)
    rw[List.length_map] at hsv
    subst hsv
    have HEE:=Aa e
    have HPRE:=Aa hpre
    have HG:=Aa hg
    have HMG:=Aa hMg
    clear e hsub hpre hg hMg hh hsw hst
    generalize hiq:s.sAt q.who q.track=i at *
    have HI:=Aa hiq
    clear hiq
    have hiI:(i:Int)<(s.subs.length:Int):=by omega
    go_wp2_with (refine Al rfl 31 (.tmp 3) rfl (cs:=[.int .i64 q.kind,.int .i64 q.who,.int .i64 q.room,.int .i64 q.rights,.int .i64 q.track,qs,.int .i64 q.layer,.int .i64 q.tid]) _ rfl Tryz.underlying31 rfl (by kernel_rfl) HXZ.out ?_)
    refine (EP q qs wz).mono ?_
    rintro e w3 ⟨rfl,hb3⟩
    have HLz3:=Aa (Le.mk hb3)
    clear hb3
    cases hly:DS.layers q
    ·have HE:=Aa (show s.selects q=(s,1) by rw[DS.selects,HH.out,if_neg (by simp),hly];rfl)
     clear hly
     go_wp2_with fail
     rw[HR.out,HE.out]
     exact DoP.same H0.out (HLZ.out.trans HLz3.out) rfl
    ·have HE:=Aa (show s.selects q=(s.setSubs (s.subs.set i ⟨s.subs[i].who,s.subs[i].track,q.layer,q.tid,s.subs[i].muted⟩),0) by rw[DS.selects,HH.out,if_neg (by simp),hly,if_neg (by simp),HSUB.out,HI.out])
     clear hly
     have HA6:=Aa ((HLz3.out.trans (Le.refl w3).drew).heap HZ.out.ha)
     have HX6:=Aa ((HLz3.out.trans (Le.refl w3).drew).heap HXZ.out)
     go_upto_region 6 with fail
     refine' Aj 9 9 25 Le (Is _::Is _::Is _::Is _::Is _::Is _::Is _::Is _::Is _::[]) ([]::[0]::[1]::[2]::[]::[]::[5]::[3,4]::[7]::[]) (by kernel_rfl) (by kernel_rfl) (by rfl) (by kernel_rfl) (by kernel_rfl) Le.refl (fun _ _ _ h h'=>h.trans h') ⟨St.is,St.is,St.is,St.is,St.is,St.is,St.is,St.is,St.is,trivial⟩ ?m6
     case m6 =>
      simp (maxSteps:=100000000) only [AR,Bv,AK,AC,An,AD,Am,Au,List.set_cons_succ,List.set_cons_zero,List.getElem?_cons_zero,List.getElem?_cons_succ,List.take_succ_cons,List.take_zero,List.drop_succ_cons,List.drop_zero,List.cons_append,List.nil_append,List.length_cons,List.length_nil,Nat.reduceAdd]
      intro x0 x1 x2 x3 x4 x5 x6 x7 x8
      refine⟨⟨?_,?_,?_,?_,?_,?_,?_,?_,?_,trivial⟩,?_⟩
      ·intro wo hw KQ hK;go_simp;exact hK _ _ .r .m
      ·intro wo hw h0 KQ hK;cases h0;go_simp;exact hK _ _ .r .m
      ·intro wo hw h1 KQ hK;cases h1;go_simp;exact hK _ _ .r .m
      ·intro wo hw h2 KQ hK;cases h2;have kk:=Af (hw.heap HA6.out) 6 (.slice (some ⟨g,0,none⟩) s.subs.length cap) rfl wo (Le.refl _);go_simp;exact hK _ _ .r .m
      ·intro wo hw KQ hK;go_simp;exact hK _ _ .r .m
      ·intro wo hw KQ hK;go_simp;exact hK _ _ .r .m
      ·intro wo hw h5 KQ hK;cases h5;have kk:=Af (hw.heap HX6.out) 6 (.int .i64 q.layer) rfl wo (Le.refl _);go_simp;exact hK _ _ .r .m
      ·intro wo hw h3 h4 KQ hK;cases h3;cases h4;go_simp;exact hK _ _ .r .m
      ·intro wo hw h7 KQ hK;cases h7;go_simp;exact hK _ _ .r .m
      ·intro wz hz h0 h1 h2 h3 h4 h5 h6 h7 h8;cases h0;cases h1;cases h2;cases h3;cases h4;cases h5;cases h6;cases h7;cases h8;skip
       have hl6:=(HLz3.out.trans (Le.refl w3).drew).trans hz
       have HLA:=Aa (HLZ.out.trans hl6)
       have HZA:=Aa (HZ.out.le hl6)
       have HXA:=Aa (hl6.heap HXZ.out)
       have HGA:=Aa (hl6.heap HG.out)
       clear hl6 HA6 HX6 HZ HXZ HG HLz3
       go_upto_region 7 with (refine Ao rfl 3 (.tmp 33) (.tmp 31) rfl (pre++[.int .i64 s.subs[i].who,.int .i64 s.subs[i].track]) (v:=.int .i64 q.layer) (old:=.int .i64 s.subs[i].layer) (post:=.int .i64 s.subs[i].tid::.bool s.subs[i].muted::post) (by rw[List.length_append,HPRE.out];rfl) rfl (by kernel_rfl) rfl (by have:=HGA.out;simpa[BC] using this) ?_;intro w5 h5 hg5;have H5:=Aa h5;have HG5:=Aa hg5;clear h5 hg5)
       have hne5:=AS HZA.out.ha HGA.out (by decide)
       have HNE:=Aa (And.intro hne5 (AS HXA.out HGA.out (by decide)))
       have HA7:=Aa ((Le.refl w5).drew.heap (Ai HG5.out HZA.out.ha (by intro e;injection e with e;exact HNE.out.1 e.symm)))
       have HX7:=Aa ((Le.refl w5).drew.heap (Ai HG5.out HXA.out (by intro e;injection e with e;exact HNE.out.2 e.symm)))
       clear hne5
       refine' Aj 9 9 34 Le (Is _::Is _::Is _::Is _::Is _::Is _::Is _::Is _::Is _::[]) ([]::[0]::[1]::[2]::[]::[]::[5]::[3,4]::[7]::[]) (by kernel_rfl) (by kernel_rfl) (by rfl) (by kernel_rfl) (by kernel_rfl) Le.refl (fun _ _ _ h h'=>h.trans h') ⟨St.is,St.is,St.is,St.is,St.is,St.is,St.is,St.is,St.is,trivial⟩ ?m7
       case m7 =>
        simp (maxSteps:=100000000) only [AR,Bv,AK,AC,An,AD,Am,Au,List.set_cons_succ,List.set_cons_zero,List.getElem?_cons_zero,List.getElem?_cons_succ,List.take_succ_cons,List.take_zero,List.drop_succ_cons,List.drop_zero,List.cons_append,List.nil_append,List.length_cons,List.length_nil,Nat.reduceAdd]
        intro x0 x1 x2 x3 x4 x5 x6 x7 x8
        refine⟨⟨?_,?_,?_,?_,?_,?_,?_,?_,?_,trivial⟩,?_⟩
        ·intro wo hw KQ hK;go_simp;exact hK _ _ .r .m
        ·intro wo hw h0 KQ hK;cases h0;go_simp;exact hK _ _ .r .m
        ·intro wo hw h1 KQ hK;cases h1;go_simp;exact hK _ _ .r .m
        ·intro wo hw h2 KQ hK;cases h2;have kk:=Af (hw.heap HA7.out) 6 (.slice (some ⟨g,0,none⟩) s.subs.length cap) rfl wo (Le.refl _);go_simp;exact hK _ _ .r .m
        ·intro wo hw KQ hK;go_simp;exact hK _ _ .r .m
        ·intro wo hw KQ hK;go_simp;exact hK _ _ .r .m
        ·intro wo hw h5 KQ hK;cases h5;have kk:=Af (hw.heap HX7.out) 7 (.int .i64 q.tid) rfl wo (Le.refl _);go_simp;exact hK _ _ .r .m
        ·intro wo hw h3 h4 KQ hK;cases h3;cases h4;go_simp;exact hK _ _ .r .m
        ·intro wo hw h7 KQ hK;cases h7;go_simp;exact hK _ _ .r .m
        ·intro wz hz h0 h1 h2 h3 h4 h5 h6 h7 h8;cases h0;cases h1;cases h2;cases h3;cases h4;cases h5;cases h6;cases h7;cases h8;skip
         have hl7:=(Le.refl w5).drew.trans hz
         have HGB:=Aa (hl7.heap H5.out)
         have HD5:=Aa ((HZA.out.D.setSub (y:=⟨s.subs[i].who,s.subs[i].track,q.layer,s.subs[i].tid,s.subs[i].muted⟩) HEE.out HPRE.out HGA.out HG5.out (by have:=H5.out;simpa[BC] using this)).le hl7)
         have HAB:=Aa (hz.heap HA7.out)
         go_wp2_with (refine Ao rfl 3 (.tmp 42) (.tmp 40) rfl (pre++[.int .i64 s.subs[i].who,.int .i64 s.subs[i].track,.int .i64 q.layer]) (v:=.int .i64 q.tid) (old:=.int .i64 s.subs[i].tid) (post:=.bool s.subs[i].muted::post) (by rw[List.length_append,HPRE.out];rfl) rfl (by kernel_rfl) rfl (by have:=HGB.out;simpa using this) ?_;intro w6 h6 hg6;have H6:=Aa h6;have HG6:=Aa hg6;clear h6 hg6)
         rw[HR.out,HE.out]
         refine⟨rfl,⟨_,_,_,ts,⟨Ai HG6.out HAB.out (by intro e;injection e with e;exact HNE.out.1 e.symm),.inl HZA.out.Ma,?_⟩⟩,(Fp.of_le HLA.out).trans ((Fp.of_grown HG5.out HMG.out).trans ((Fp.of_le hl7).trans (Fp.of_grown HG6.out HMG.out)))⟩
         have h8:=HD5.out
         have hlen:(s.setSubs (s.subs.set i ⟨s.subs[i].who,s.subs[i].track,q.layer,s.subs[i].tid,s.subs[i].muted⟩)).subs.length=s.subs.length:=List.length_set ..
         have h9:(s.setSubs (s.subs.set i ⟨s.subs[i].who,s.subs[i].track,q.layer,s.subs[i].tid,s.subs[i].muted⟩)).subs[i]?=some ⟨s.subs[i].who,s.subs[i].track,q.layer,s.subs[i].tid,s.subs[i].muted⟩:=by
          show (s.subs.set i ⟨s.subs[i].who,s.subs[i].track,q.layer,s.subs[i].tid,s.subs[i].muted⟩)[i]?=_
          rw[List.getElem?_set_self (List.getElem?_eq_some_iff.1 HEE.out).1]
         rw[← hlen] at h8
         have h10:=h8.setSub (y:=⟨s.subs[i].who,s.subs[i].track,q.layer,q.tid,s.subs[i].muted⟩) h9 HPRE.out (by have:=HGB.out;simpa[BC] using this) HG6.out (by have:=H6.out;simpa[BC] using this)
         rw[hlen] at h10
         have h11:(s.setSubs (s.subs.set i ⟨s.subs[i].who,s.subs[i].track,q.layer,s.subs[i].tid,s.subs[i].muted⟩)).setSubs ((s.setSubs (s.subs.set i ⟨s.subs[i].who,s.subs[i].track,q.layer,s.subs[i].tid,s.subs[i].muted⟩)).subs.set i ⟨s.subs[i].who,s.subs[i].track,q.layer,q.tid,s.subs[i].muted⟩)=s.setSubs (s.subs.set i ⟨s.subs[i].who,s.subs[i].track,q.layer,q.tid,s.subs[i].muted⟩):=by
          show (⟨s.mp,s.mt,s.ms,s.ml,s.people,s.tracks,(s.subs.set i ⟨s.subs[i].who,s.subs[i].track,q.layer,s.subs[i].tid,s.subs[i].muted⟩).set i ⟨s.subs[i].who,s.subs[i].track,q.layer,q.tid,s.subs[i].muted⟩⟩:DS)=_
          rw[List.set_set];rfl
         rw[h11] at h10
         exact h10.mono fun k _ h=>.inl h
end
end Go.Proofs.YtmcndlofaanjiaaGreat
