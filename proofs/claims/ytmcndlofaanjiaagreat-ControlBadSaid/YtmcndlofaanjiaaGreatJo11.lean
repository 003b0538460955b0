/- Texts of one claim, laid together: Del5 May Any Tak -/
import Derived.Test.YtmcndlofaanjiaaGreatJo10
/- delta: a state that is changed where it lies. (Written by gen_del5.py.) -/
namespace Go.Proofs.YtmcndlofaanjiaaGreat
open Go.RowKit
set_option linter.unusedVariables false
set_option maxRecDepth 100000
set_option maxHeartbeats 8000000
structure DtB (M:Nat→Prop) (w:World) (a:Nat) (s:DS) (pv tv sv:Value) (ts:List (Trk×Value)):Prop where
 ha:w.heap[a]?=some (.cells #[.int .i64 s.mp,.int .i64 s.mt,.int .i64 s.ms,.int .i64 s.ml,pv,tv,sv] 62 (0,0))
 Ma:M a
 D:DsB M w s pv tv sv ts
def rqV (q:Rq) (qs:Value):Value:=.agg #[.int .i64 q.kind,.int .i64 q.who,.int .i64 q.room,.int .i64 q.rights,.int .i64 q.track,qs,.int .i64 q.layer,.int .i64 q.tid]
section
variable {M M':Nat→Prop} {w w':World} {a:Nat} {s:DS} {pv tv sv:Value} {ts:List (Trk×Value)}
theorem DtB.fp {S:Nat→Prop} (h:DtB M w a s pv tv sv ts) (hf:Fp S w w') (hs:∀ k,S k→¬ M k):DtB M w' a s pv tv sv ts:=⟨hf.heap h.ha (fun e=>hs _ e h.Ma),h.Ma,h.D.fp hf hs⟩
theorem DtB.le (h:DtB M w a s pv tv sv ts) (hl:Le w w'):DtB M w' a s pv tv sv ts:=h.fp (S:=fun _=>False) (Fp.of_le hl) (fun _ h=>h.elim)
theorem DtB.mono (h:DtB M w a s pv tv sv ts) (hm:∀ k,k<w.heap.size→M k→M' k):DtB M' w a s pv tv sv ts:=⟨h.ha,hm _ (Ah h.ha) h.Ma,h.D.mono hm⟩
def DoP (M:Nat→Prop) (w:World) (a:Nat) (r:DS×Int) (e:Ending) (w':World):Prop :=
 e=.returned (.int .i64 r.2)∧(∃ pv tv sv ts,DtB (Gn M w) w' a r.1 pv tv sv ts)∧Fp M w w'
theorem DoP.same (h:DtB M w a s pv tv sv ts) (hl:Le w w') {r:DS×Int} (h1:r.1=s):DoP M w a r (.returned (.int .i64 r.2)) w':=by
 refine⟨rfl,⟨pv,tv,sv,ts,?_⟩,Fp.of_le hl⟩
 rw[h1]
 exact (h.le hl).mono fun k _ h=>.inl h
theorem DsB.setSub {g cap i:Nat} {x y:Sub} {pre post:List Value} (h:DsB M w s pv tv (.slice (some ⟨g,0,none⟩) s.subs.length cap) ts) (hi:s.subs[i]?=some x) (hp:pre.length=i*5) (h0:w.heap[g]?=some (.cells (pre++(BC x++post)).toArray 133 (0,0)))
  (hg:w.grownBy w' (some g)) (h1:w'.heap[g]?=some (.cells (pre++(BC y++post)).toArray 133 (0,0))):DsB M w' (s.setSubs (s.subs.set i y)) pv tv (.slice (some ⟨g,0,none⟩) s.subs.length cap) ts:=by
 have h2:=h.hS
 have e:(s.subs.map BC).length=s.subs.length:=List.length_map ..
 rw[← e] at h2
 have h3:=h2.put (i:=i) (x:=BC x) (y:=BC y) (by rw[List.getElem?_map,hi];rfl) hp h0 rfl h1
 refine⟨h.hP.other hg h0 (by decide),h.hT.other hg h0 (by decide),?_,h.eT,fun t ht=>(h.hR t ht).other hg h0 (by decide)⟩
 show AA M w' _ 5 _ ((s.subs.set i y).map BC)
 rw[List.map_set,← e]
 exact h3
theorem FA (h:DtB M w a s pv tv sv ts) (ok:s.Ok) (fw:s.Few) (q:Rq) (qs:Value) (hq1:qs.oneCell'=true) (m:Bool):Calls Tryz.prog 214 #[.pointer (some ⟨a,0,none⟩),rqV q qs,.bool m] w (DoP M w a (s.mutes q m)):=by
 obtain⟨l1,l2,l3⟩:=lens ok fw
 have HL:=Aa ((Le.refl w).alloc (.cells #[.int .i64 q.kind,.int .i64 q.who,.int .i64 q.room,.int .i64 q.rights,.int .i64 q.track,qs,.int .i64 q.layer,.int .i64 q.tid] 31))
 have HX:=Aa (heap_alloc_new w (.cells #[.int .i64 q.kind,.int .i64 q.who,.int .i64 q.room,.int .i64 q.rights,.int .i64 q.track,qs,.int .i64 q.layer,.int .i64 q.tid] 31))
 have H:=Aa (h.le HL.out)
 have H0:=Aa h
 obtain⟨R,hR⟩:∃ R,R=DoP M w a (s.mutes q m):=⟨_,rfl⟩
 rw[← hR]
 have HR:=Aa hR
 clear hR h
 show Calls Tryz.prog 214 #[.pointer (some ⟨a,0,none⟩),.agg #[.int .i64 q.kind,.int .i64 q.who,.int .i64 q.room,.int .i64 q.rights,.int .i64 q.track,qs,.int .i64 q.layer,.int .i64 q.tid],.bool m] w R
 go_enter Tryz.func214,Tryz.ntmps214
 go_upto_region 1 with fail
 generalize w.alloc (.cells #[.int .i64 q.kind,.int .i64 q.who,.int .i64 q.room,.int .i64 q.rights,.int .i64 q.track,qs,.int .i64 q.layer,.int .i64 q.tid] 31)=w1 at *
 generalize w.heap.size=gx at *
 have HD:=Aa (H.out.le (Le.refl w1).drew)
 have HXD:=Aa ((Le.refl w1).drew.heap HX.out)
 refine' Aj 12 8 10 Le (Is _::Is _::Is _::Is _::Is _::Is _::Is _::Is _::Is _::Is _::Is _::Is _::[]) ([]::[0]::[1]::[]::[3]::[]::[5]::[2,4,6]::[7]::[8]::[8]::[9]::[]) (by kernel_rfl) (by kernel_rfl) (by rfl) (by kernel_rfl) (by kernel_rfl) Le.refl (fun _ _ _ h h'=>h.trans h') ⟨St.is,St.is,St.is,St.is,St.is,St.is,St.is,St.is,St.is,St.is,St.is,St.is,trivial⟩ ?m1
 case m1 =>
  simp (maxSteps:=100000000) only [AR,Bv,AK,AC,An,AD,Am,Au,Act.put,List.setIfInBounds_toArray,List.set_cons_succ,List.set_cons_zero,List.getElem?_cons_zero,List.getElem?_cons_succ,List.take_succ_cons,List.take_zero,List.drop_succ_cons,List.drop_zero,List.cons_append,List.nil_append,List.length_cons,List.length_nil,Nat.reduceAdd]
  intro x0 x1 x2 x3 x4 x5 x6 x7 x8 x9 x10 x11
  refine⟨⟨?_,?_,?_,?_,?_,?_,?_,?_,?_,?_,?_,?_,trivial⟩,?_⟩
  ·intro wo hw KQ hK;go_simp;exact hK _ _ .r .m
  ·intro wo hw h0 KQ hK;cases h0;go_simp;exact hK _ _ .r .m
  ·intro wo hw h1 KQ hK;cases h1;refine cast (if_pos (show Region.wanted _ _=true from rfl)).symm ?_;have hz:=(hw.heap HD.out.ha);refine Av 62 (.tmp 11) rfl (cs:=[.int .i64 s.mp,.int .i64 s.mt,.int .i64 s.ms,.int .i64 s.ml,pv,tv,sv]) _ rfl Tryz.underlying62 rfl (by kernel_rfl) hz ?_;exact hK _ _ .r .m
  ·intro wo hw KQ hK;go_simp;exact hK _ _ .r .m
  ·intro wo hw h3 KQ hK;cases h3;have kk:=Af (hw.heap HXD.out) 1 (.int .i64 q.who) rfl wo (Le.refl _);go_simp;exact hK _ _ .r .m
  ·intro wo hw KQ hK;go_simp;exact hK _ _ .r .m
  ·intro wo hw h5 KQ hK;cases h5;have kk:=Af (hw.heap HXD.out) 4 (.int .i64 q.track) rfl wo (Le.refl _);go_simp;exact hK _ _ .r .m
  ·intro wo hw h2 h4 h6 KQ hK;cases h2;cases h4;cases h6;go_simp;refine (D2 (HD.out.D.le hw) ok fw _ _).mono ?_;rintro e w' ⟨rfl,hb⟩;exact hK _ _ (Le.mk hb) (Is.mk _ _)
  ·intro wo hw h7 KQ hK;cases h7;go_simp;exact hK _ _ .r .m
  ·intro wo hw h8 KQ hK;cases h8;go_simp;exact hK _ _ .r .m
  ·intro wo hw h8 KQ hK;cases h8;go_simp;exact hK _ _ .r .m
  ·intro wo hw h9 KQ hK;cases h9;go_simp;exact hK _ _ .r .m
  ·intro wz hz h0 h1 h2 h3 h4 h5 h6 h7 h8 h9 h10 h11;cases h0;cases h1;cases h2;cases h3;cases h4;cases h5;cases h6;cases h7;cases h8;cases h9;cases h10;cases h11;skip
   have HLZ:=Aa ((HL.out.trans (Le.refl w1).drew).trans hz)
   have HZ:=Aa (H0.out.le HLZ.out)
   clear HD HXD HX H HL
   cases hh:s.hasS q.who q.track
   ·have HE:=Aa (show s.mutes q m=(s,21) by rw[DS.mutes,hh];rfl)
    clear hh
    go_wp2_with fail
    rw[HR.out,HE.out]
    exact DoP.same H0.out HLZ.out rfl
   ·obtain⟨hlt,hsw,hst⟩:=D9 ok hh
    have HH:=Aa hh
    have e:=List.getElem?_eq_getElem hlt
    have hsub:s.sub q.who q.track=s.subs[s.sAt q.who q.track]:=by rw[DS.sub,List.getD,e,Option.getD_some]
    have HSUB:=Aa hsub
    obtain⟨g,cap,pre,post,hsv,hMg,hpre,hg⟩:=HZ.out.D.hS.cut (i:=s.sAt q.who q.track) (x:=BC s.subs[s.sAt q.who q.track]) (by rw[List.getElem?_map,e];rfl)
    rw[List.length_map] at hsv
    subst hsv
    have HEE:=Aa e
    have HPRE:=Aa hpre
    have HG:=Aa hg
    have HMG:=Aa hMg
    clear e hsub hpre hg hMg hh hsw hst
    generalize hiq:s.sAt q.who q.track=i at *
    have HI:=Aa hiq
    clear hiq
    have hiI:(i:Int)<(s.subs.length:Int):=by omega
    have y0:wz.cell? ⟨a,6,none⟩=some (.slice (some ⟨g,0,none⟩) s.subs.length cap):=Ae HZ.out.ha 6
    have y1:wz.cell? ⟨g,i*5+4,none⟩=some (.bool s.subs[i].muted):=by
     have h0:pre.length≤i*5+4:=by rw[HPRE.out];omega
     rw[Ae HG.out,List.getElem?_toArray,List.getElem?_append_right h0,HPRE.out,Nat.add_sub_cancel_left];rfl
    by_cases hm:s.subs[i].muted=m
    ·have HE:=Aa (show s.mutes q m=(s,23) by rw[DS.mutes,HH.out,if_neg (by simp),HSUB.out,if_pos hm])
     rw[hm] at y1
     have hz1:(m==m)=true:=by simp
     clear hm
     go_wp2_with fail
     rw[HR.out,HE.out]
     exact DoP.same H0.out HLZ.out rfl
    ·have HE:=Aa (show s.mutes q m=(s.setSubs (s.subs.set i ⟨s.subs[i].who,s.subs[i].track,s.subs[i].layer,s.subs[i].tid,m⟩),0) by rw[DS.mutes,HH.out,if_neg (by simp),HSUB.out,if_neg hm,HI.out])
     have hz1:(s.subs[i].muted==m)=false:=by rw[beq_eq_false_iff_ne];exact hm
     clear hm
     go_wp2_with (refine Ao rfl 4 (.tmp 41) (.tmp 39) rfl (pre++[.int .i64 s.subs[i].who,.int .i64 s.subs[i].track,.int .i64 s.subs[i].layer,.int .i64 s.subs[i].tid]) (v:=.bool m) (old:=.bool s.subs[i].muted) (post:=post) (by rw[List.length_append,HPRE.out];rfl) rfl (by kernel_rfl) rfl (by have:=HG.out;simpa[BC] using this) ?_;intro w5 h5 hg5;have H5:=Aa h5;have HG5:=Aa hg5;clear h5 hg5)
     rw[HR.out,HE.out]
     refine⟨rfl,⟨_,_,_,ts,⟨Ai HG5.out HZ.out.ha (by intro e;injection e with e;exact AS HZ.out.ha HG.out (by decide) e.symm),.inl HZ.out.Ma,?_⟩⟩,(Fp.of_le HLZ.out).trans (Fp.of_grown HG5.out HMG.out)⟩
     exact (HZ.out.D.setSub HEE.out HPRE.out HG.out HG5.out (by have:=H5.out;simpa[BC] using this)).mono fun k _ h=>.inl h
theorem mute_any (h:DtB M w a s pv tv sv ts) (ok:s.Ok) (fw:s.Few) (q:Rq) (qs:Value) (hq1:qs.oneCell'=true):Calls Tryz.prog 169 #[.pointer (some ⟨a,0,none⟩),rqV q qs] w (DoP M w a (s.mutes q true)):=by
 have HL:=Aa ((Le.refl w).alloc (.cells #[.int .i64 q.kind,.int .i64 q.who,.int .i64 q.room,.int .i64 q.rights,.int .i64 q.track,qs,.int .i64 q.layer,.int .i64 q.tid] 31))
 have HX:=Aa (heap_alloc_new w (.cells #[.int .i64 q.kind,.int .i64 q.who,.int .i64 q.room,.int .i64 q.rights,.int .i64 q.track,qs,.int .i64 q.layer,.int .i64 q.tid] 31))
 have HM:=Aa (FA (h.le HL.out) ok fw q qs hq1 true)
 obtain⟨R,hR⟩:∃ R,R=DoP M w a (s.mutes q true):=⟨_,rfl⟩
 rw[← hR]
 have HR:=Aa hR
 clear hR h
 show Calls Tryz.prog 169 #[.pointer (some ⟨a,0,none⟩),.agg #[.int .i64 q.kind,.int .i64 q.who,.int .i64 q.room,.int .i64 q.rights,.int .i64 q.track,qs,.int .i64 q.layer,.int .i64 q.tid]] w R
 go_enter Tryz.func169,Tryz.ntmps169
 go_upto_region 1 with fail
 generalize w.alloc (.cells #[.int .i64 q.kind,.int .i64 q.who,.int .i64 q.room,.int .i64 q.rights,.int .i64 q.track,qs,.int .i64 q.layer,.int .i64 q.tid] 31)=w1 at *
 generalize w.heap.size=gx at *
 go_wp2_with (refine Al rfl 31 (.tmp 3) rfl (cs:=[.int .i64 q.kind,.int .i64 q.who,.int .i64 q.room,.int .i64 q.rights,.int .i64 q.track,qs,.int .i64 q.layer,.int .i64 q.tid]) _ rfl Tryz.underlying31 rfl (by kernel_rfl) HX.out ?_)
 refine HM.out.mono ?_
 rintro e w2 ⟨rfl,h2,h3⟩
 have H2:=Aa h2
 have H3:=Aa h3
 clear h2 h3
 go_wp2_with fail
 rw[HR.out]
 obtain⟨p1,p2,p3,p4,h4⟩:=H2.out
 exact⟨rfl,⟨p1,p2,p3,p4,h4.mono fun k _ hk=>hk.elim .inl fun hk=>.inr (Nat.le_trans HL.out.size hk)⟩,(Fp.of_le HL.out).trans H3.out⟩
theorem Hq (h:DtB M w a s pv tv sv ts) (ok:s.Ok) (fw:s.Few) (q:Rq) (qs:Value) (hq1:qs.oneCell'=true):Calls Tryz.prog 170 #[.pointer (some ⟨a,0,none⟩),rqV q qs] w (DoP M w a (s.mutes q false)):=by
 have HL:=Aa ((Le.refl w).alloc (.cells #[.int .i64 q.kind,.int .i64 q.who,.int .i64 q.room,.int .i64 q.rights,.int .i64 q.track,qs,.int .i64 q.layer,.int .i64 q.tid] 31))
 have HX:=Aa (heap_alloc_new w (.cells #[.int .i64 q.kind,.int .i64 q.who,.int .i64 q.room,.int .i64 q.rights,.int .i64 q.track,qs,.int .i64 q.layer,.int .i64 q.tid] 31))
 have HM:=Aa (FA (h.le HL.out) ok fw q qs hq1 false)
 obtain⟨R,hR⟩:∃ R,R=DoP M w a (s.mutes q false):=⟨_,rfl⟩
 rw[← hR]
 have HR:=Aa hR
 clear hR h
 show Calls Tryz.prog 170 #[.pointer (some ⟨a,0,none⟩),.agg #[.int .i64 q.kind,.int .i64 q.who,.int .i64 q.room,.int .i64 q.rights,.int .i64 q.track,qs,.int .i64 q.layer,.int .i64 q.tid]] w R
 go_enter Tryz.func170,Tryz.ntmps170
 go_upto_region 1 with fail
 generalize w.alloc (.cells #[.int .i64 q.kind,.int .i64 q.who,.int .i64 q.room,.int .i64 q.rights,.int .i64 q.track,qs,.int .i64 q.layer,.int .i64 q.tid] 31)=w1 at *
 generalize w.heap.size=gx at *
 go_wp2_with (refine Al rfl 31 (.tmp 3) rfl (cs:=[.int .i64 q.kind,.int .i64 q.who,.int .i64 q.room,.int .i64 q.rights,.int .i64 q.track,qs,.int .i64 q.layer,.int .i64 q.tid]) _ rfl Tryz.underlying31 rfl (by kernel_rfl) HX.out ?_)
 refine HM.out.mono ?_
 rintro e w2 ⟨rfl,h2,h3⟩
 have H2:=Aa h2
 have H3:=Aa h3
 clear h2 h3
 go_wp2_with fail
 rw[HR.out]
 obtain⟨p1,p2,p3,p4,h4⟩:=H2.out
 exact⟨rfl,⟨p1,p2,p3,p4,h4.mono fun k _ hk=>hk.elim .inl fun hk=>.inr (Nat.le_trans HL.out.size hk)⟩,(Fp.of_le HL.out).trans H3.out⟩
theorem Cn (x a b:Int) (w:World):Calls Tryz.prog 158 #[.int .i64 x,.int .i64 a,.int .i64 b] w (Ax w (.bool (inB x a b))):=by
 obtain⟨R,hR⟩:∃ R,R=Ax w (.bool (inB x a b)):=⟨_,rfl⟩
 rw[← hR]
 have HR:=Aa hR
 clear hR
 go_enter Tryz.func158,Tryz.ntmps158
 by_cases h1:a≤x
 ·by_cases h2:x≤b
  ·have HE:=Aa (show inB x a b=true by simp[inB,h1,h2])
   go_wp2_with fail
   rw[HR.out,HE.out]
   exact⟨rfl,(Le.refl w).out⟩
  ·have HE:=Aa (show inB x a b=false by simp[inB,h2])
   go_wp2_with fail
   rw[HR.out,HE.out]
   exact⟨rfl,(Le.refl w).out⟩
 ·have HE:=Aa (show inB x a b=false by simp[inB,h1])
  go_wp2_with fail
  rw[HR.out,HE.out]
  exact⟨rfl,(Le.refl w).out⟩
theorem EP (q:Rq) (qs:Value) (w:World):Calls Tryz.prog 210 #[rqV q qs] w (Ax w (.bool (DS.layers q))):=by
 have HL:=Aa ((Le.refl w).alloc (.cells #[.int .i64 q.kind,.int .i64 q.who,.int .i64 q.room,.int .i64 q.rights,.int .i64 q.track,qs,.int .i64 q.layer,.int .i64 q.tid] 31))
 have HX:=Aa (heap_alloc_new w (.cells #[.int .i64 q.kind,.int .i64 q.who,.int .i64 q.room,.int .i64 q.rights,.int .i64 q.track,qs,.int .i64 q.layer,.int .i64 q.tid] 31))
 obtain⟨R,hR⟩:∃ R,R=Ax w (.bool (DS.layers q)):=⟨_,rfl⟩
 rw[← hR]
 have HR:=Aa hR
 clear hR
 show Calls Tryz.prog 210 #[.agg #[.int .i64 q.kind,.int .i64 q.who,.int .i64 q.room,.int .i64 q.rights,.int .i64 q.track,qs,.int .i64 q.layer,.int .i64 q.tid]] w R
 go_enter Tryz.func210,Tryz.ntmps210
 go_upto_region 1 with fail
 generalize w.alloc (.cells #[.int .i64 q.kind,.int .i64 q.who,.int .i64 q.room,.int .i64 q.rights,.int .i64 q.track,qs,.int .i64 q.layer,.int .i64 q.tid] 31)=w1 at *
 generalize w.heap.size=gx at *
 have y6:w1.cell? ⟨gx,6,none⟩=some (.int .i64 q.layer):=Ae HX.out 6
 go_wp2_with fail
 refine (Cn q.layer 0 2 w1).mono ?_
 rintro e w2 ⟨rfl,hb2⟩
 have HL2:=Aa (HL.out.trans (Le.mk hb2))
 have HX2:=Aa ((Le.mk hb2).heap HX.out)
 clear hb2 y6
 cases h1:inB q.layer 0 2
 ·have HE:=Aa (show DS.layers q=false by rw[DS.layers,h1];rfl)
  clear h1
  go_wp2_with fail
  rw[HR.out,HE.out]
  exact⟨rfl,HL2.out.out⟩
 ·have H1:=Aa h1
  clear h1
  have y7:w2.cell? ⟨gx,7,none⟩=some (.int .i64 q.tid):=Ae HX2.out 7
  go_wp2_with fail
  refine (Cn q.tid 0 3 w2).mono ?_
  rintro e w3 ⟨rfl,hb3⟩
  have HL3:=Aa (HL2.out.trans (Le.mk hb3))
  have HE:=Aa (show DS.layers q=inB q.tid 0 3 by rw[DS.layers,H1.out];rfl)
  clear hb3
  go_wp2_with fail
  rw[HR.out,HE.out]
  exact⟨rfl,HL3.out.out⟩
end
theorem Iq {w:World} {A:Option Addr} {l:List Nat} (h:Bk w A (CA l)) (k:Nat):Bk w A (CA (l.take k)):=fun hne=>by
 have hl:CA l≠[]:=by
  intro e
  apply hne
  have:l=[]:=by simpa[CA] using e
  rw[this];simp[CA]
 obtain⟨b,off,e,hc⟩:=h hl
 refine⟨b,off,e,fun j u hj=>hc j u ?_⟩
 rw[CA,List.getElem?_map] at hj ⊢
 rw[List.getElem?_take] at hj
 split at hj
 ·exact hj
 ·simp at hj
theorem DN {l:List Nat} {k:Nat}:∀ {n:Nat},k≤n→BK l n=true→BK l k=true
 | 0,h,h1=>by
          obtain rfl:k=0:=by omega
          exact h1
 | n+1,h,h1=>by
  rcases Nat.lt_or_ge n k with h2 | h2
  ·obtain rfl:k=n+1:=by omega
   exact h1
  ·rw[BK,Bool.and_eq_true] at h1
   exact DN h2 h1.1
theorem GV (w:World) (A:Option Addr) (l:List Nat) (cap:Nat) (hc:Bk w A (CA l)) (hn:l.length≤1000) (hcap:l.length≤cap):Calls Tryz.prog 204 #[.slice A l.length cap] w (Ax w (.bool (Ew l))):=by
 have HC:=Aa hc
 obtain⟨R,hR⟩:∃ R,R=Ax w (.bool (Ew l)):=⟨_,rfl⟩
 rw[← hR]
 have HR:=Aa hR
 clear hR hc
 go_enter Tryz.func204,Tryz.ntmps204
 go_wp2_with fail
 refine (Cn l.length 1 3 w).mono ?_
 rintro e w2 ⟨rfl,hb⟩
 have HL2:=Aa (Le.mk hb)
 clear hb
 cases hin:inB (l.length:Int) 1 3
 ·have HE:=Aa (show Ew l=false by rw[Ew,hin];rfl)
  clear hin
  go_wp2_with fail
  rw[HR.out,HE.out]
  exact⟨rfl,HL2.out.out⟩
 have HIN:=Aa hin
 clear hin
 go_wp2_with fail
 go_loopw [3,4,11] (fun _ _ j wr=>∃ k:Nat,k≤l.length∧j=.int .i64 k∧Hd (Le w wr)∧Hd (BK l k=true)) (fun _ _ j _=>l.length - (intOf j).toNat)
 case atStart=>exact⟨0,Nat.zero_le _,rfl,HL2,Aa rfl⟩
 case round =>
  obtain⟨k,hk,rfl,HLE,HM⟩:=hrel
  rcases Nat.lt_or_ge k l.length with hlt | hge
  ·have hltI:(k:Int)<(l.length:Int):=by omega
   have e:=List.getElem?_eq_getElem hlt
   obtain⟨b,off,hA,hcell⟩:=HC.out (by cases l with | nil=>simp at hlt | cons a l=>simp[CA])
   subst hA
   have z0:wr.cell? ⟨b,off+k,none⟩=some (.int .u32 l[k]):=HLE.out.cell (hcell k _ (by rw[CA,List.getElem?_map,e];rfl))
   have q1:IntKind.i64.wrap ((k:Int)+1)=((k+1:Nat):Int):=by rw[IntWalk.i64_in _ (by omega)];simp
   have HSTEP:=Aa (show BK l (k+1)=(decide (0<l[k])&&(decide (l[k]<2147483648)&&!(l.take k).contains l[k])) by
    rw[BK,HM.out,List.getD,e,Option.getD_some];rfl)
   have HBAD:=Aa (show BK l (k+1)=false→Ew l=false from fun hf=>by
    cases hm:BK l l.length
    ·rw[Ew,hm,Bool.and_false]
    ·rw[DN (show k+1≤l.length by omega) hm] at hf;cases hf)
   have HCT:=Aa (EE wr (some ⟨b,off,none⟩) (l.take k) cap l[k] (Iq (AI HC.out HLE.out) k) (by rw[List.length_take];omega))
   rw[List.length_take,Nat.min_eq_left hk] at HCT
   have s1:(k:Int)≤(cap:Int):=by omega
   have s2:k≤cap:=by omega
   clear e hcell
   generalize l[k]=x at *
   by_cases h0:x=0
   ·subst h0
    have HE:=Aa (HBAD.out (by rw[HSTEP.out];simp))
    go_wp2_with fail
    rw[HR.out,HE.out]
    exact⟨rfl,HLE.out.out⟩
   ·have hz0:((x:Int)==0)=false:=by rw[beq_eq_false_iff_ne];omega
    by_cases h1:2147483648≤x
    ·have h1I:(2147483648:Int)≤(x:Int):=by omega
     have HE:=Aa (HBAD.out (by rw[HSTEP.out,decide_eq_false (show ¬ x<2147483648 by omega)];simp))
     go_wp2_with fail
     rw[HR.out,HE.out]
     exact⟨rfl,HLE.out.out⟩
    ·have h1I:¬ (2147483648:Int)≤(x:Int):=by omega
     go_wp2_with fail
     refine HCT.out.mono ?_
     rintro e w3 ⟨rfl,hb⟩
     have HL3:=Aa (HLE.out.trans (Le.mk hb))
     clear hb HCT
     cases hct:(l.take k).contains x
     ·have HNX:=Aa (show BK l (k+1)=true by rw[HSTEP.out,hct,decide_eq_true (show 0<x by omega),decide_eq_true (show x<2147483648 by omega)];rfl)
      clear hct
      go_wp2_with fail
      exact⟨⟨k+1,hlt,rfl,HL3,HNX⟩,by simp only[intOf];omega⟩
     ·have HE:=Aa (HBAD.out (by rw[HSTEP.out,hct];simp))
      clear hct
      go_wp2_with fail
      rw[HR.out,HE.out]
      exact⟨rfl,HL3.out.out⟩
  ·have hgeI:¬ (k:Int)<(l.length:Int):=by omega
   obtain rfl:k=l.length:=by omega
   have HE:=Aa (show Ew l=true by rw[Ew,HIN.out,HM.out];rfl)
   go_wp2_with fail
   rw[HR.out,HE.out]
   exact⟨rfl,HLE.out.out⟩
theorem ia_trk {w:World} {M:Nat→Prop} {v:Value} {xs:List (List Value)} (hO:AA M w 182 4 v xs) (hn:xs.length≤1000000) (g:Nat) (cb:Array Value) (eg:∀ args w,(callFunc g args).run Tryz.prog w=.ok (.enter g args) w) (p:List Value→Bool)
  (hcall:∀ (x:List Value) (W:World),x∈xs→Le w W→Calls Tryz.prog g (#[.agg x.toArray]++cb) W (Ax W (.bool (p x)))) :
  Calls Tryz.prog 245 #[v,.func (.func g) #[] cb] w fun e w'=>∃ z:Int,e=.returned (.int .i64 z)∧decide (0≤z)=xs.any p∧Le w w':=by
 obtain⟨A,cap,rfl,_,_,hcap⟩:=hO.cells
 have HO:=Aa hO
 clear hO
 have HCL:=Aa hcall
 obtain⟨R,hR⟩:∃ R:Ending→World→Prop,R=fun e w'=>∃ z:Int,e=.returned (.int .i64 z)∧decide (0≤z)=xs.any p∧Le w w':=⟨_,rfl⟩
 rw[← hR]
 have HR:=Aa hR
 clear hR hcall
 go_enter Tryz.func245,Tryz.ntmps245
 go_wp2_with fail
 go_loopw [5,8] (fun _ j wr=>∃ k:Nat,k≤xs.length∧j=.int .i64 k∧Hd (Le w wr)∧Hd (∀ (t:Nat) (y:List Value),t<k→xs[t]?=some y→p y=false)) (fun _ j _=>xs.length - (intOf j).toNat)
 case atStart=>exact⟨0,Nat.zero_le _,rfl,Aa (Le.refl _),Aa fun t y ht=>by omega⟩
 case round =>
  obtain⟨k,hk,rfl,HLE,HN⟩:=hrel
  rcases Nat.lt_or_ge k xs.length with hlt | hge
  ·have hltI:(k:Int)<(xs.length:Int):=by omega
   have e:=List.getElem?_eq_getElem hlt
   obtain⟨gr,hA,hrg⟩:=(HO.out.le HLE.out).elem e
   subst hA
   have RG:=Aa hrg
   have HLN:=Aa (HO.out.len _ (List.mem_of_getElem? e))
   clear hrg
   have HX:=Aa e
   have q1:IntKind.i64.wrap ((k:Int)+1)=((k+1:Nat):Int):=by rw[IntWalk.i64_in _ (by omega)];simp
   have HCC:=Aa (HCL.out _ wr (List.mem_of_getElem? e) HLE.out)
   clear e
   generalize xs[k]=x at *
   cases hd:p x
   ·have HDD:=Aa hd
    clear hd
    go_wp2_with (refine wpList_load_mid rfl 182 (.tmp 14) rfl gr (k*4) rfl x _ RG.out Tryz.underlying182 rfl (by rw[HLN.out];kernel_rfl) ?_)
    refine HCC.out.mono ?_
    rintro e w3 ⟨rfl,hb⟩
    rw[HDD.out]
    have HL3:=Aa (HLE.out.trans (Le.mk hb))
    clear hb
    go_wp2_with fail
    refine⟨⟨k+1,hlt,rfl,HL3,Aa fun t y ht hy=>?_⟩,by simp only[intOf];omega⟩
    rcases Nat.lt_or_ge t k with h | h
    ·exact HN.out t y h hy
    ·obtain rfl:t=k:=by omega
     rw[HX.out] at hy
     injection hy with hy
     rw[← hy];exact HDD.out
   ·have HDD:=Aa hd
    clear hd
    go_wp2_with (refine wpList_load_mid rfl 182 (.tmp 14) rfl gr (k*4) rfl x _ RG.out Tryz.underlying182 rfl (by rw[HLN.out];kernel_rfl) ?_)
    refine HCC.out.mono ?_
    rintro e w3 ⟨rfl,hb⟩
    rw[HDD.out]
    have HL3:=Aa (HLE.out.trans (Le.mk hb))
    clear hb
    go_wp2_with fail
    rw[HR.out]
    refine⟨(k:Int),rfl,?_,HL3.out⟩
    rw[decide_eq_true (show (0:Int)≤(k:Int) by omega)]
    exact (List.any_eq_true.2 ⟨x,List.mem_of_getElem? HX.out,HDD.out⟩).symm
  ·have hgeI:¬ (k:Int)<(xs.length:Int):=by omega
   have HE:=Aa (show xs.any p=false by
    rw[List.any_eq_false]
    intro x hx
    obtain⟨t,ht,rfl⟩:=List.getElem_of_mem hx
    rw[HN.out t _ (by omega) (List.getElem?_eq_getElem ht)]
    simp)
   go_wp2_with fail
   rw[HR.out]
   exact⟨-1,rfl,by rw[HE.out];rfl,HLE.out⟩
theorem ca_trk {w:World} {M:Nat→Prop} {v:Value} {xs:List (List Value)} (hO:AA M w 182 4 v xs) (hn:xs.length≤1000000) (g:Nat) (cb:Array Value) (eg:∀ args w,(callFunc g args).run Tryz.prog w=.ok (.enter g args) w) (p:List Value→Bool)
  (hcall:∀ (x:List Value) (W:World),x∈xs→Le w W→Calls Tryz.prog g (#[.agg x.toArray]++cb) W (Ax W (.bool (p x)))) :
  Calls Tryz.prog 235 #[v,.func (.func g) #[] cb] w (Ax w (.bool (xs.any p))):=by
 have HI:=Aa (ia_trk hO hn g cb eg p hcall)
 obtain⟨R,hR⟩:∃ R,R=Ax w (.bool (xs.any p)):=⟨_,rfl⟩
 rw[← hR]
 have HR:=Aa hR
 clear hR hcall hO
 go_enter Tryz.func235,Tryz.ntmps235
 go_wp2_with fail
 refine HI.out.mono ?_
 rintro e w2 ⟨z,rfl,hz,hl⟩
 have HZ:=Aa hz
 have HL:=Aa hl
 clear hz hl
 go_wp2_with fail
 rw[HR.out,← HZ.out]
 exact⟨rfl,HL.out.out⟩
theorem ia_u32 {w:World} (A:Option Addr) (xs:List Nat) (cap:Nat) (hc:Bk w A (CA xs)) (hn:xs.length≤1000000) (g:Nat) (cb:Array Value) (eg:∀ args w,(callFunc g args).run Tryz.prog w=.ok (.enter g args) w) (p:Nat→Bool)
  (hcall:∀ (x:Nat) (W:World),x∈xs→Le w W→Calls Tryz.prog g (#[.int .u32 x]++cb) W (Ax W (.bool (p x)))) :
  Calls Tryz.prog 247 #[.slice A xs.length cap,.func (.func g) #[] cb] w fun e w'=>∃ z:Int,e=.returned (.int .i64 z)∧decide (0≤z)=xs.any p∧Le w w':=by
 have HC0:=Aa hc
 clear hc
 have HCL:=Aa hcall
 obtain⟨R,hR⟩:∃ R:Ending→World→Prop,R=fun e w'=>∃ z:Int,e=.returned (.int .i64 z)∧decide (0≤z)=xs.any p∧Le w w':=⟨_,rfl⟩
 rw[← hR]
 have HR:=Aa hR
 clear hR hcall
 go_enter Tryz.func247,Tryz.ntmps247
 go_wp2_with fail
 go_loopw [5,8] (fun _ j wr=>∃ k:Nat,k≤xs.length∧j=.int .i64 k∧Hd (Le w wr)∧Hd (∀ (t:Nat) (y:Nat),t<k→xs[t]?=some y→p y=false)) (fun _ j _=>xs.length - (intOf j).toNat)
 case atStart=>exact⟨0,Nat.zero_le _,rfl,Aa (Le.refl _),Aa fun t y ht=>by omega⟩
 case round =>
  obtain⟨k,hk,rfl,HLE,HN⟩:=hrel
  rcases Nat.lt_or_ge k xs.length with hlt | hge
  ·have hltI:(k:Int)<(xs.length:Int):=by omega
   have e:=List.getElem?_eq_getElem hlt
   obtain⟨b,off,hA,hcell⟩:=HC0.out (by cases xs with | nil=>simp at hlt | cons a l=>simp[CA])
   subst hA
   have z0:wr.cell? ⟨b,off+k,none⟩=some (.int .u32 xs[k]):=HLE.out.cell (hcell k _ (by rw[CA,List.getElem?_map,e];rfl))
   clear hcell
   have HX:=Aa e
   have q1:IntKind.i64.wrap ((k:Int)+1)=((k+1:Nat):Int):=by rw[IntWalk.i64_in _ (by omega)];simp
   have HCC:=Aa (HCL.out _ wr (List.mem_of_getElem? e) HLE.out)
   clear e
   generalize xs[k]=x at *
   cases hd:p x
   ·have HDD:=Aa hd
    clear hd
    go_wp2_with fail
    refine HCC.out.mono ?_
    rintro e w3 ⟨rfl,hb⟩
    rw[HDD.out]
    have HL3:=Aa (HLE.out.trans (Le.mk hb))
    clear hb
    go_wp2_with fail
    refine⟨⟨k+1,hlt,rfl,HL3,Aa fun t y ht hy=>?_⟩,by simp only[intOf];omega⟩
    rcases Nat.lt_or_ge t k with h | h
    ·exact HN.out t y h hy
    ·obtain rfl:t=k:=by omega
     rw[HX.out] at hy
     injection hy with hy
     rw[← hy];exact HDD.out
   ·have HDD:=Aa hd
    clear hd
    go_wp2_with fail
    refine HCC.out.mono ?_
    rintro e w3 ⟨rfl,hb⟩
    rw[HDD.out]
    have HL3:=Aa (HLE.out.trans (Le.mk hb))
    clear hb
    go_wp2_with fail
    rw[HR.out]
    refine⟨(k:Int),rfl,?_,HL3.out⟩
    rw[decide_eq_true (show (0:Int)≤(k:Int) by omega)]
    exact (List.any_eq_true.2 ⟨x,List.mem_of_getElem? HX.out,HDD.out⟩).symm
  ·have hgeI:¬ (k:Int)<(xs.length:Int):=by omega
   have HE:=Aa (show xs.any p=false by
    rw[List.any_eq_false]
    intro x hx
    obtain⟨t,ht,rfl⟩:=List.getElem_of_mem hx
    rw[HN.out t _ (by omega) (List.getElem?_eq_getElem ht)]
    simp)
   go_wp2_with fail
   rw[HR.out]
   exact⟨-1,rfl,by rw[HE.out];rfl,HLE.out⟩
theorem ca_u32 {w:World} (A:Option Addr) (xs:List Nat) (cap:Nat) (hc:Bk w A (CA xs)) (hn:xs.length≤1000000) (g:Nat) (cb:Array Value) (eg:∀ args w,(callFunc g args).run Tryz.prog w=.ok (.enter g args) w) (p:Nat→Bool)
  (hcall:∀ (x:Nat) (W:World),x∈xs→Le w W→Calls Tryz.prog g (#[.int .u32 x]++cb) W (Ax W (.bool (p x)))) :
  Calls Tryz.prog 237 #[.slice A xs.length cap,.func (.func g) #[] cb] w (Ax w (.bool (xs.any p))):=by
 have HI:=Aa (ia_u32 A xs cap hc hn g cb eg p hcall)
 obtain⟨R,hR⟩:∃ R,R=Ax w (.bool (xs.any p)):=⟨_,rfl⟩
 rw[← hR]
 have HR:=Aa hR
 clear hR hcall hc
 go_enter Tryz.func237,Tryz.ntmps237
 go_wp2_with fail
 refine HI.out.mono ?_
 rintro e w2 ⟨z,rfl,hz,hl⟩
 have HZ:=Aa hz
 have HL:=Aa hl
 clear hz hl
 go_wp2_with fail
 rw[HR.out,← HZ.out]
 exact⟨rfl,HL.out.out⟩
section
theorem tk11_any (w:World) (b:Nat) (A:Option Addr) (l:List Nat) (cap x:Nat) (y0:w.cell? ⟨b,0,none⟩=some (.slice A l.length cap)) (hc:Bk w A (CA l)) (hn:l.length≤1000000) :
  Calls Tryz.prog 238 #[.int .u32 x,.pointer (some ⟨b,0,none⟩)] w (Ax w (.bool (l.contains x))):=by
 have HI0:=EE w A l cap x hc hn
 generalize l.contains x=z at HI0 ⊢
 have HI:=Aa HI0
 clear HI0
 obtain⟨R,hR⟩:∃ R,R=Ax w (.bool z):=⟨_,rfl⟩
 rw[← hR]
 have HR:=Aa hR
 clear hR hc
 go_enter Tryz.func238,Tryz.ntmps238
 go_wp2_with fail
 refine HI.out.mono ?_
 rintro e w2 ⟨rfl,hb⟩
 have HL:=Aa (Le.mk hb)
 clear hb
 go_wp2_with fail
 rw[HR.out]
 exact⟨rfl,HL.out.out⟩
theorem tk1_any {M:Nat→Prop} {w:World} (t:Trk×Value) (hr:AA M w 110 1 t.2 (t.1.ssrcs.map DI)) (hs:t.1.ssrcs.length≤1000000) (b:Nat) (A:Option Addr) (l:List Nat) (cap:Nat) (hb:w.cell? ⟨b,0,none⟩=some (.slice A l.length cap)) (hc:Bk w A (CA l)) (hn:l.length≤1000000) :
  Calls Tryz.prog 236 #[.agg (trC t).toArray,.pointer (some ⟨b,0,none⟩)] w (Ax w (.bool (t.1.ssrcs.any fun x=>l.contains x))):=by
 obtain⟨t1,v⟩:=t
 obtain⟨A',cap',hv,hcl,_,_⟩:=hr.cells
 rw[List.length_map] at hv
 rw[Dn] at hcl
 dsimp only at hv hcl hs ⊢
 subst hv
 have HCA0:=(fun (W:World) (hW:Le w W)=>ca_u32 (w:=W) A' t1.ssrcs cap' (AI hcl hW) hs 238 #[.pointer (some ⟨b,0,none⟩)] (Bt Tryz.func238 (by kernel_rfl) rfl) (fun x=>l.contains x) (fun x W' _ hl=>tk11_any W' b A l cap x ((hW.trans hl).cell hb) (AI hc (hW.trans hl)) hn))
 have HL:=Aa ((Le.refl w).alloc (.cells #[.int .i64 t1.id,.int .i64 t1.owner,.int .i64 t1.from_,.slice A' t1.ssrcs.length cap'] 182))
 have HX:=Aa (heap_alloc_new w (.cells #[.int .i64 t1.id,.int .i64 t1.owner,.int .i64 t1.from_,.slice A' t1.ssrcs.length cap'] 182))
 generalize (t1.ssrcs.any fun x=>l.contains x)=z at HCA0 ⊢
 have HCA:=Aa HCA0
 clear HCA0
 obtain⟨R,hR⟩:∃ R,R=Ax w (.bool z):=⟨_,rfl⟩
 rw[← hR]
 have HR:=Aa hR
 clear hR hr hcl hc hb
 show Calls Tryz.prog 236 #[.agg #[.int .i64 t1.id,.int .i64 t1.owner,.int .i64 t1.from_,.slice A' t1.ssrcs.length cap'],.pointer (some ⟨b,0,none⟩)] w R
 go_enter Tryz.func236,Tryz.ntmps236
 go_upto_region 1 with fail
 generalize w.alloc (.cells #[.int .i64 t1.id,.int .i64 t1.owner,.int .i64 t1.from_,.slice A' t1.ssrcs.length cap'] 182)=w1 at *
 generalize w.heap.size=gx at *
 have y0:w1.cell? ⟨gx,3,none⟩=some (.slice A' t1.ssrcs.length cap'):=Ae HX.out 3
 go_wp2_with fail
 refine (HCA.out w1 HL.out).mono ?_
 rintro e w2 ⟨rfl,hb2⟩
 have HL2:=Aa (HL.out.trans (Le.mk hb2))
 clear hb2
 go_wp2_with fail
 rw[HR.out]
 exact⟨rfl,HL2.out.out⟩
theorem DK {α:Type} {f:α→Int}:∀ {l:List α},l.Pairwise (fun a b=>f a<f b)→∀ {a b:α},a∈l→b∈l→f a=f b→a=b
 | [],_,_,_,h,_,_=>by cases h
 | x::l,hp,a,b,ha,hb,he=>by
  rw[List.pairwise_cons] at hp
  rcases List.mem_cons.1 ha with e1 | h1<;>rcases List.mem_cons.1 hb with e2 | h2
  ·rw[e1,e2]
  ·have:=hp.1 _ h2;rw[e1] at he;omega
  ·have:=hp.1 _ h1;rw[e2] at he;omega
  ·exact DK hp.2 h1 h2 he
open Classical in
noncomputable def Ev (ts:List (Trk×Value)) (p:Trk→Bool) (c:List Value):Bool:=decide (∃ t∈ts,trC t=c∧p t.1=true)
theorem Df {s:DS} {ts:List (Trk×Value)} (he:ts.map (·.1)=s.tracks) (ho:s.tracks.Pairwise fun a b=>a.id<b.id) (p:Trk→Bool) {t:Trk×Value} (ht:t∈ts):Ev ts p (trC t)=p t.1:=by
 classical
 rw[Ev]
 cases hp:p t.1
 ·rw[decide_eq_false_iff_not]
  rintro⟨t',ht',e,h⟩
  have hid:t'.1.id=t.1.id:=by
   simp only[trC,List.cons.injEq,Value.int.injEq] at e
   exact e.1.2
  have h1:t'.1∈s.tracks:=by rw[← he];exact List.mem_map.2 ⟨t',ht',rfl⟩
  have h2:t.1∈s.tracks:=by rw[← he];exact List.mem_map.2 ⟨t,ht,rfl⟩
  rw[DK ho h1 h2 hid,hp] at h
  cases h
 ·rw[decide_eq_true_iff]
  exact⟨t,ht,rfl,hp⟩
theorem ofTrk_any {s:DS} {ts:List (Trk×Value)} (he:ts.map (·.1)=s.tracks) (ho:s.tracks.Pairwise fun a b=>a.id<b.id) (p:Trk→Bool):(ts.map trC).any (Ev ts p)=s.tracks.any p:=by
 rw[← he,List.any_map,List.any_map]
 rw[Bool.eq_iff_iff,List.any_eq_true,List.any_eq_true]
 constructor
 ·rintro⟨t,ht,h⟩
  exact⟨t,ht,by show p t.1=true;rw[← Df he ho p ht];exact h⟩
 ·rintro⟨t,ht,h⟩
  exact⟨t,ht,by show Ev ts p (trC t)=true;rw[Df he ho p ht];exact h⟩
theorem mayS_len {l:List Nat} (h:Ew l=true):l.length≤3:=by
 rw[Ew,Bool.and_eq_true] at h
 have:=(AY.1 h.1).2
 omega
section
variable {M M':Nat→Prop} {w w':World} {s:DS} {pv tv sv:Value} {ts:List (Trk×Value)}
theorem FF (h:DsB M w s pv tv sv ts) (ok:s.Ok) (fw:s.Few) (A:Option Addr) (l:List Nat) (cap:Nat) (hc:Bk w A (CA l)) (hn:l.length≤1000000) :
  Calls Tryz.prog 205 #[dsV s pv tv sv,.slice A l.length cap] w (Ax w (.bool (s.taken l))):=by
 obtain⟨l1,l2,l3⟩:=lens ok fw
 have hlT:=h.lenT
 have HP:=Aa (show (ts.map trC).any (Ev ts fun t=>t.ssrcs.any fun x=>l.contains x)=s.taken l from ofTrk_any h.eT ok.tracks _)
 have HL:=Aa (((Le.refl w).alloc (.cells #[.int .i64 s.mp,.int .i64 s.mt,.int .i64 s.ms,.int .i64 s.ml,pv,tv,sv] 62)))
 have HX:=Aa (heap_alloc_new w (.cells #[.int .i64 s.mp,.int .i64 s.mt,.int .i64 s.ms,.int .i64 s.ml,pv,tv,sv] 62))
 obtain⟨w1,hw1⟩:∃ w1,w1=w.alloc (.cells #[.int .i64 s.mp,.int .i64 s.mt,.int .i64 s.ms,.int .i64 s.ml,pv,tv,sv] 62):=⟨_,rfl⟩
 rw[← hw1] at HL HX
 have HL1:=Aa ((Le.refl w1).alloc (.cells #[.slice A l.length cap] 29))
 have HX1:=Aa (heap_alloc_new w1 (.cells #[.slice A l.length cap] 29))
 obtain⟨w2,hw2⟩:∃ w2,w2=w1.alloc (.cells #[.slice A l.length cap] 29):=⟨_,rfl⟩
 rw[← hw2] at HL1 HX1
 have HL2:=Aa (HL.out.trans HL1.out)
 have HCA:=Aa (ca_trk (w:=w2) ((h.le HL2.out).hT) (by rw[List.length_map];omega) 236 #[.pointer (some ⟨w1.heap.size,0,none⟩)] (Bt Tryz.func236 (by kernel_rfl) rfl) (Ev ts fun t=>t.ssrcs.any fun x=>l.contains x) (fun x W hx hl=>by
  obtain⟨t,ht,rfl⟩:=List.mem_map.1 hx
  rw[Df h.eT ok.tracks _ ht]
  have ht1:t.1∈s.tracks:=by rw[← h.eT];exact List.mem_map.2 ⟨t,ht,rfl⟩
  exact tk1_any t ((h.le (HL2.out.trans hl)).hR t ht) (by have:=mayS_len (ok.tIn _ ht1).2.1;omega) w1.heap.size A l cap (hl.cell (Ae HX1.out 0)) (AI hc (HL2.out.trans hl)) hn))
 have hsz:w1.heap.size=w.heap.size+1:=by rw[hw1];show (w.heap.push _).size=_;rw[Array.size_push]
 rw[HP.out,hsz] at HCA
 obtain⟨R,hR⟩:∃ R,R=Ax w (.bool (s.taken l)):=⟨_,rfl⟩
 rw[← hR]
 have HR:=Aa hR
 have HW1:=Aa hw1
 have HW2:=Aa hw2
 have y0:w2.cell? ⟨w.heap.size,5,none⟩=some tv:=HL1.out.cell (Ae HX.out 5)
 clear hR h hc hlT HP hw1 hw2 hsz
 show Calls Tryz.prog 205 #[.agg #[.int .i64 s.mp,.int .i64 s.mt,.int .i64 s.ms,.int .i64 s.ml,pv,tv,sv],.slice A l.length cap] w R
 go_enter Tryz.func205,Tryz.ntmps205
 go_upto_region 1 with fail
 rw[← HW1.out,← HW2.out]
 go_wp2_with fail
 refine HCA.out.mono ?_
 rintro e w3 ⟨rfl,hb2⟩
 have HL3:=Aa (HL2.out.trans (Le.mk hb2))
 clear hb2
 go_wp2_with fail
 rw[HR.out]
 exact⟨rfl,HL3.out.out⟩
end
end
end Go.Proofs.YtmcndlofaanjiaaGreat
