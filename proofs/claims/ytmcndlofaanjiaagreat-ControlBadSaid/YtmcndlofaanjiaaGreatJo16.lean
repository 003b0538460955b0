/- Texts of one claim, laid together: Del15 Del16 Del17 Del18 -/
import Derived.Test.YtmcndlofaanjiaaGreatJo15
import Derived.Test.YtmcndlofaanjiaaGreatJo13
/- delta: whose,which (closures);unpublish. (Written by gen_del15.py.) -/
namespace Go.Proofs.YtmcndlofaanjiaaGreat
open Go.RowKit
set_option linter.unusedVariables false
set_option maxRecDepth 100000
set_option maxHeartbeats 8000000
section
variable {M M':Nat→Prop} {w w' w'':World} {a:Nat} {s:DS} {pv tv sv:Value} {ts:List (Trk×Value)}
theorem lv1_any (q:Rq) (qs:Value) (b:Nat) (hb:w.heap[b]?=some (.cells #[.int .i64 q.kind,.int .i64 q.who,.int .i64 q.room,.int .i64 q.rights,.int .i64 q.track,qs,.int .i64 q.layer,.int .i64 q.tid] 31 (0,0))) (x:Per):Calls Tryz.prog 199 #[.agg (Ds x).toArray,.pointer (some ⟨b,0,none⟩)] w (Ax w (.bool (decide (x.who=q.who)))):=by
 have HL:=Aa ((Le.refl w).alloc (.cells #[.int .i64 x.who,.int .i64 x.room,.int .i64 x.rights] 94))
 have HX:=Aa (heap_alloc_new w (.cells #[.int .i64 x.who,.int .i64 x.room,.int .i64 x.rights] 94))
 have HB:=Aa (HL.out.heap hb)
 obtain⟨R,hR⟩:∃ R,R=Ax w (.bool (decide (x.who=q.who))):=⟨_,rfl⟩
 rw[← hR]
 have HR:=Aa hR
 clear hR hb
 show Calls Tryz.prog 199 #[.agg #[.int .i64 x.who,.int .i64 x.room,.int .i64 x.rights],.pointer (some ⟨b,0,none⟩)] w R
 go_enter Tryz.func199,Tryz.ntmps199
 go_upto_region 1 with fail
 generalize w.alloc (.cells #[.int .i64 x.who,.int .i64 x.room,.int .i64 x.rights] 94)=w1 at *
 generalize w.heap.size=gx at *
 have y0:w1.cell? ⟨gx,0,none⟩=some (.int .i64 x.who):=Ae HX.out 0
 have y1:w1.cell? ⟨b,1,none⟩=some (.int .i64 q.who):=Ae HB.out 1
 by_cases hw:x.who=q.who
 ·have HE:=Aa (show decide (x.who=q.who)=true from decide_eq_true hw)
  have hz:(x.who==q.who)=true:=by rw[beq_iff_eq];exact hw
  clear hw
  go_wp2_with fail
  rw[HR.out,HE.out]
  exact⟨rfl,HL.out.out⟩
 ·have HE:=Aa (show decide (x.who=q.who)=false from decide_eq_false hw)
  have hz:(x.who==q.who)=false:=by rw[beq_eq_false_iff_ne];exact hw
  clear hw
  go_wp2_with fail
  rw[HR.out,HE.out]
  exact⟨rfl,HL.out.out⟩
theorem lv2_any (q:Rq) (qs:Value) (b:Nat) (hb:w.heap[b]?=some (.cells #[.int .i64 q.kind,.int .i64 q.who,.int .i64 q.room,.int .i64 q.rights,.int .i64 q.track,qs,.int .i64 q.layer,.int .i64 q.tid] 31 (0,0))) (x:Sub):Calls Tryz.prog 200 #[.agg (BC x).toArray,.pointer (some ⟨b,0,none⟩)] w (Ax w (.bool (decide (x.who=q.who)))):=by
 have HL:=Aa ((Le.refl w).alloc (.cells #[.int .i64 x.who,.int .i64 x.track,.int .i64 x.layer,.int .i64 x.tid,.bool x.muted] 133))
 have HX:=Aa (heap_alloc_new w (.cells #[.int .i64 x.who,.int .i64 x.track,.int .i64 x.layer,.int .i64 x.tid,.bool x.muted] 133))
 have HB:=Aa (HL.out.heap hb)
 obtain⟨R,hR⟩:∃ R,R=Ax w (.bool (decide (x.who=q.who))):=⟨_,rfl⟩
 rw[← hR]
 have HR:=Aa hR
 clear hR hb
 show Calls Tryz.prog 200 #[.agg #[.int .i64 x.who,.int .i64 x.track,.int .i64 x.layer,.int .i64 x.tid,.bool x.muted],.pointer (some ⟨b,0,none⟩)] w R
 go_enter Tryz.func200,Tryz.ntmps200
 go_upto_region 1 with fail
 generalize w.alloc (.cells #[.int .i64 x.who,.int .i64 x.track,.int .i64 x.layer,.int .i64 x.tid,.bool x.muted] 133)=w1 at *
 generalize w.heap.size=gx at *
 have y0:w1.cell? ⟨gx,0,none⟩=some (.int .i64 x.who):=Ae HX.out 0
 have y1:w1.cell? ⟨b,1,none⟩=some (.int .i64 q.who):=Ae HB.out 1
 by_cases hw:x.who=q.who
 ·have HE:=Aa (show decide (x.who=q.who)=true from decide_eq_true hw)
  have hz:(x.who==q.who)=true:=by rw[beq_iff_eq];exact hw
  clear hw
  go_wp2_with fail
  rw[HR.out,HE.out]
  exact⟨rfl,HL.out.out⟩
 ·have HE:=Aa (show decide (x.who=q.who)=false from decide_eq_false hw)
  have hz:(x.who==q.who)=false:=by rw[beq_eq_false_iff_ne];exact hw
  clear hw
  go_wp2_with fail
  rw[HR.out,HE.out]
  exact⟨rfl,HL.out.out⟩
theorem lv3_any (q:Rq) (qs:Value) (b:Nat) (hb:w.heap[b]?=some (.cells #[.int .i64 q.kind,.int .i64 q.who,.int .i64 q.room,.int .i64 q.rights,.int .i64 q.track,qs,.int .i64 q.layer,.int .i64 q.tid] 31 (0,0))) (x:Trk×Value) (h1:x.2.oneCell'=true):Calls Tryz.prog 202 #[.agg (trC x).toArray,.pointer (some ⟨b,0,none⟩)] w (Ax w (.bool (decide (x.1.owner=q.who)))):=by
 have HL:=Aa ((Le.refl w).alloc (.cells #[.int .i64 x.1.id,.int .i64 x.1.owner,.int .i64 x.1.from_,x.2] 182))
 have HX:=Aa (heap_alloc_new w (.cells #[.int .i64 x.1.id,.int .i64 x.1.owner,.int .i64 x.1.from_,x.2] 182))
 have HB:=Aa (HL.out.heap hb)
 obtain⟨R,hR⟩:∃ R,R=Ax w (.bool (decide (x.1.owner=q.who))):=⟨_,rfl⟩
 rw[← hR]
 have HR:=Aa hR
 clear hR hb
 show Calls Tryz.prog 202 #[.agg #[.int .i64 x.1.id,.int .i64 x.1.owner,.int .i64 x.1.from_,x.2],.pointer (some ⟨b,0,none⟩)] w R
 go_enter Tryz.func202,Tryz.ntmps202
 go_upto_region 1 with fail
 generalize w.alloc (.cells #[.int .i64 x.1.id,.int .i64 x.1.owner,.int .i64 x.1.from_,x.2] 182)=w1 at *
 generalize w.heap.size=gx at *
 have y0:w1.cell? ⟨gx,1,none⟩=some (.int .i64 x.1.owner):=Ae HX.out 1
 have y1:w1.cell? ⟨b,1,none⟩=some (.int .i64 q.who):=Ae HB.out 1
 by_cases hw:x.1.owner=q.who
 ·have HE:=Aa (show decide (x.1.owner=q.who)=true from decide_eq_true hw)
  have hz:(x.1.owner==q.who)=true:=by rw[beq_iff_eq];exact hw
  clear hw
  go_wp2_with fail
  rw[HR.out,HE.out]
  exact⟨rfl,HL.out.out⟩
 ·have HE:=Aa (show decide (x.1.owner=q.who)=false from decide_eq_false hw)
  have hz:(x.1.owner==q.who)=false:=by rw[beq_eq_false_iff_ne];exact hw
  clear hw
  go_wp2_with fail
  rw[HR.out,HE.out]
  exact⟨rfl,HL.out.out⟩
theorem up1_any (q:Rq) (qs:Value) (b:Nat) (hb:w.heap[b]?=some (.cells #[.int .i64 q.kind,.int .i64 q.who,.int .i64 q.room,.int .i64 q.rights,.int .i64 q.track,qs,.int .i64 q.layer,.int .i64 q.tid] 31 (0,0))) (x:Trk×Value) (h1:x.2.oneCell'=true):Calls Tryz.prog 208 #[.agg (trC x).toArray,.pointer (some ⟨b,0,none⟩)] w (Ax w (.bool (decide (x.1.id=q.track)))):=by
 have HL:=Aa ((Le.refl w).alloc (.cells #[.int .i64 x.1.id,.int .i64 x.1.owner,.int .i64 x.1.from_,x.2] 182))
 have HX:=Aa (heap_alloc_new w (.cells #[.int .i64 x.1.id,.int .i64 x.1.owner,.int .i64 x.1.from_,x.2] 182))
 have HB:=Aa (HL.out.heap hb)
 obtain⟨R,hR⟩:∃ R,R=Ax w (.bool (decide (x.1.id=q.track))):=⟨_,rfl⟩
 rw[← hR]
 have HR:=Aa hR
 clear hR hb
 show Calls Tryz.prog 208 #[.agg #[.int .i64 x.1.id,.int .i64 x.1.owner,.int .i64 x.1.from_,x.2],.pointer (some ⟨b,0,none⟩)] w R
 go_enter Tryz.func208,Tryz.ntmps208
 go_upto_region 1 with fail
 generalize w.alloc (.cells #[.int .i64 x.1.id,.int .i64 x.1.owner,.int .i64 x.1.from_,x.2] 182)=w1 at *
 generalize w.heap.size=gx at *
 have y0:w1.cell? ⟨gx,0,none⟩=some (.int .i64 x.1.id):=Ae HX.out 0
 have y1:w1.cell? ⟨b,4,none⟩=some (.int .i64 q.track):=Ae HB.out 4
 by_cases hw:x.1.id=q.track
 ·have HE:=Aa (show decide (x.1.id=q.track)=true from decide_eq_true hw)
  have hz:(x.1.id==q.track)=true:=by rw[beq_iff_eq];exact hw
  clear hw
  go_wp2_with fail
  rw[HR.out,HE.out]
  exact⟨rfl,HL.out.out⟩
 ·have HE:=Aa (show decide (x.1.id=q.track)=false from decide_eq_false hw)
  have hz:(x.1.id==q.track)=false:=by rw[beq_eq_false_iff_ne];exact hw
  clear hw
  go_wp2_with fail
  rw[HR.out,HE.out]
  exact⟨rfl,HL.out.out⟩
theorem trk_one (h:DsB M w s pv tv sv ts) {t:Trk×Value} (ht:t∈ts):t.2.oneCell'=true:=AF (h.hR t ht)
theorem E8 (h:DtB M w a s pv tv sv ts) (ok:s.Ok) (fw:s.Few) (q:Rq) (qs:Value) (hq1:qs.oneCell'=true):Calls Tryz.prog 165 #[.pointer (some ⟨a,0,none⟩),rqV q qs] w (DoP M w a (s.unpublish q)):=by
 obtain⟨l1,l2,l3⟩:=lens ok fw
 have HL:=Aa ((Le.refl w).alloc (.cells #[.int .i64 q.kind,.int .i64 q.who,.int .i64 q.room,.int .i64 q.rights,.int .i64 q.track,qs,.int .i64 q.layer,.int .i64 q.tid] 31))
 have HX:=Aa (heap_alloc_new w (.cells #[.int .i64 q.kind,.int .i64 q.who,.int .i64 q.room,.int .i64 q.rights,.int .i64 q.track,qs,.int .i64 q.layer,.int .i64 q.tid] 31))
 have HOW:=Aa (own_any (h.le HL.out) ok fw q qs hq1)
 have H0:=Aa h
 have HDR:=Aa (fun (W:World) (hW:Le (w.alloc (.cells #[.int .i64 q.kind,.int .i64 q.who,.int .i64 q.room,.int .i64 q.rights,.int .i64 q.track,qs,.int .i64 q.layer,.int .i64 q.tid] 31)) W)=>Hh (h.le (HL.out.trans hW)) ok.tracks (by omega) (by omega) 208 #[.pointer (some ⟨w.heap.size,0,none⟩)] (Bt Tryz.func208 (by kernel_rfl) rfl) (fun t=>decide (t.id=q.track)) (fun t ht W' hf=>up1_any q qs w.heap.size (hf.heap (hW.heap HX.out) (fun e=>(h.le (HL.out.trans hW)).D.hT.row_ne (hW.heap HX.out) (by decide) e)) t (trk_one h.D ht)))
 obtain⟨R,hR⟩:∃ R,R=DoP M w a (s.unpublish q):=⟨_,rfl⟩
 rw[← hR]
 have HR:=Aa hR
 clear hR h
 show Calls Tryz.prog 165 #[.pointer (some ⟨a,0,none⟩),.agg #[.int .i64 q.kind,.int .i64 q.who,.int .i64 q.room,.int .i64 q.rights,.int .i64 q.track,qs,.int .i64 q.layer,.int .i64 q.tid]] w R
 go_enter Tryz.func165,Tryz.ntmps165
 go_upto_region 1 with fail
 generalize w.alloc (.cells #[.int .i64 q.kind,.int .i64 q.who,.int .i64 q.room,.int .i64 q.rights,.int .i64 q.track,qs,.int .i64 q.layer,.int .i64 q.tid] 31)=w1 at *
 generalize w.heap.size=gx at *
 go_wp2_with (refine Al rfl 31 (.tmp 3) rfl (cs:=[.int .i64 q.kind,.int .i64 q.who,.int .i64 q.room,.int .i64 q.rights,.int .i64 q.track,qs,.int .i64 q.layer,.int .i64 q.tid]) _ rfl Tryz.underlying31 rfl (by kernel_rfl) HX.out ?_)
 refine HOW.out.mono ?_
 rintro e w2 ⟨hl,h1,h2⟩
 have HL2:=Aa hl
 clear hl
 by_cases h0:s.ownE q=0
 ·obtain⟨hT,g,n,c,e1,rfl⟩:=h2 h0
  have HE:=Aa (show s.unpublish q=(s.cut (fun t=>decide (t.id=q.track)),0) by rw[DS.unpublish,if_neg (by simp[h0])])
  clear h1 h2 h0 hT e1
  go_wp2_with fail
  refine (HDR.out w2 HL2.out).mono ?_
  rintro e w3 ⟨⟨v,rfl⟩,h2,h3⟩
  have H2:=Aa h2
  have H3:=Aa h3
  clear h2 h3
  go_wp2_with fail
  rw[HR.out,HE.out]
  obtain⟨p1,p2,p3,p4,h4⟩:=H2.out
  have hle:=HL.out.trans HL2.out
  exact⟨rfl,⟨p1,p2,p3,p4,h4.mono fun k _ hk=>hk.elim .inl fun hk=>.inr (Nat.le_trans hle.size hk)⟩,(Fp.of_le hle).trans H3.out⟩
 ·obtain rfl:=h1 h0
  have HE:=Aa (show s.unpublish q=(s,s.ownE q) by rw[DS.unpublish,if_pos h0])
  have hz:(s.ownE q==0)=false:=by rw[beq_eq_false_iff_ne];exact h0
  clear h1 h2 h0
  generalize s.ownE q=z at *
  go_wp2_with fail
  rw[HR.out,HE.out]
  exact DoP.same H0.out (HL.out.trans HL2.out) (r:=(s,z)) rfl
end
section
variable {M M':Nat→Prop} {w w' w'':World} {a:Nat} {s:DS} {pv tv sv:Value} {ts:List (Trk×Value)}
theorem whoP_ne (z:Int):(fun x:Per=>!decide (x.who=z))=fun x=>decide (x.who≠z):=funext fun _=>decide_not.symm
theorem whoS_ne (z:Int):(fun x:Sub=>!decide (x.who=z))=fun x=>decide (x.who≠z):=funext fun _=>decide_not.symm
theorem leave_any (h:DtB M w a s pv tv sv ts) (ok:s.Ok) (fw:s.Few) (q:Rq) (qs:Value) (hq1:qs.oneCell'=true):Calls Tryz.prog 163 #[.pointer (some ⟨a,0,none⟩),rqV q qs] w (DoP M w a (s.leave q)):=by
 obtain⟨l1,l2,l3⟩:=lens ok fw
 have HL:=Aa ((Le.refl w).alloc (.cells #[.int .i64 q.kind,.int .i64 q.who,.int .i64 q.room,.int .i64 q.rights,.int .i64 q.track,qs,.int .i64 q.layer,.int .i64 q.tid] 31))
 have HX:=Aa (heap_alloc_new w (.cells #[.int .i64 q.kind,.int .i64 q.who,.int .i64 q.room,.int .i64 q.rights,.int .i64 q.track,qs,.int .i64 q.layer,.int .i64 q.tid] 31))
 have H0:=Aa h
 have HOK:=Aa ok
 obtain⟨R,hR⟩:∃ R,R=DoP M w a (s.leave q):=⟨_,rfl⟩
 rw[← hR]
 have HR:=Aa hR
 clear hR h
 show Calls Tryz.prog 163 #[.pointer (some ⟨a,0,none⟩),.agg #[.int .i64 q.kind,.int .i64 q.who,.int .i64 q.room,.int .i64 q.rights,.int .i64 q.track,qs,.int .i64 q.layer,.int .i64 q.tid]] w R
 go_enter Tryz.func163,Tryz.ntmps163
 go_upto_region 1 with fail
 generalize w.alloc (.cells #[.int .i64 q.kind,.int .i64 q.who,.int .i64 q.room,.int .i64 q.rights,.int .i64 q.track,qs,.int .i64 q.layer,.int .i64 q.tid] 31)=w1 at *
 generalize w.heap.size=gx at *
 have HD1:=Aa ((H0.out.le HL.out).mono (M':=Gn M w) fun k _ hk=>.inl hk)
 have HP:=Aa (fun (W0:World) (hW:Le w1 W0)=>df_per (w:=W0) ((HD1.out.le hW).D.hP) (by rw[List.length_map];omega) 199 #[.pointer (some ⟨gx,0,none⟩)] (Bt Tryz.func199 (by kernel_rfl) rfl) (ofC Ds fun y=>decide (y.who=q.who)) (fun _ W=>Fp (fun k=>pv.ownBlock=some k) W0 W) (fun _ _ _ h hf=>h.trans hf) (fun j x W hx hI=>by
  obtain⟨y,hy,rfl⟩:=List.mem_map.1 (List.mem_of_getElem? hx)
  rw[FU Hj]
  refine (lv1_any q qs gx (hI.heap (hW.heap HX.out) (fun e=>(HD1.out.le hW).D.hP.row_ne (hW.heap HX.out) (by decide) e)) y).mono ?_
  rintro e w' ⟨rfl,hb⟩
  exact⟨rfl,hI.trans (Fp.of_le (Le.mk hb)),KT.of_le (Le.mk hb)⟩) (Fp.refl _ _) (Fq s))
 have y4:w1.cell? ⟨a,4,none⟩=some pv:=Ae HD1.out.ha 4
 go_wp2_with fail
 refine (HP.out w1 (Le.refl _)).mono ?_
 rintro e w2 ⟨pv2,rfl,ho,hob,hI⟩
 have HF2:=Aa hI
 have HO2:=Aa ho
 have HA2:=Aa (HF2.out.heap HD1.out.ha (fun e=>HD1.out.D.hP.row_ne HD1.out.ha (by decide) e))
 have HX2:=Aa (HF2.out.heap HX.out (fun e=>HD1.out.D.hP.row_ne HX.out (by decide) e))
 have H1C:=Aa (AF ho)
 clear ho hob hI y4 HP
 go_upto_region 2 with (refine Ao rfl 58 (.tmp 13) (.tmp 11) rfl [.int .i64 s.mp,.int .i64 s.mt,.int .i64 s.ms,.int .i64 s.ml] (v:=pv2) (old:=pv) (post:=[tv,sv]) rfl rfl (by kernel_rfl) H1C.out HA2.out ?_;intro w3 h3 hg3;have H3:=Aa h3;have HG3:=Aa hg3;clear h3 hg3)
 have HN:=Aa (HD1.out.newPeople (l:=s.people.filter fun p=>decide (p.who≠q.who)) HF2.out (by rw[← whoP_ne,← CB Hj];exact HO2.out.mono fun k _ hk=>.inl hk) HG3.out H3.out)
 have HX3:=Aa (Ai HG3.out HX2.out (by intro e;injection e with e;exact AS HA2.out HX2.out (by decide) e))
 obtain⟨s1,hs1⟩:∃ s1,s1=s.setPeople (s.people.filter fun p=>decide (p.who≠q.who)):=⟨_,rfl⟩
 rw[← hs1] at HN
 have HS1:=Aa hs1
 have HD3:=Aa (HN.out.1.mono (M':=Gn M w) fun k _ hk=>hk.elim _root_.id fun hk=>.inr (Nat.le_trans HL.out.size hk))
 have HF3:=Aa ((Fp.of_le HL.out).gn HN.out.2)
 have hn1:s1.subs.length≤64:=by rw[hs1];exact l3
 have HQ:=Aa (fun (W0:World) (hW:Le w3 W0)=>df_sub (w:=W0) ((HD3.out.le hW).D.hS) (by rw[List.length_map];omega) 200 #[.pointer (some ⟨gx,0,none⟩)] (Bt Tryz.func200 (by kernel_rfl) rfl) (ofC BC fun y=>decide (y.who=q.who)) (fun _ W=>Fp (fun k=>sv.ownBlock=some k) W0 W) (fun _ _ _ h hf=>h.trans hf) (fun j x W hx hI=>by
  obtain⟨y,hy,rfl⟩:=List.mem_map.1 (List.mem_of_getElem? hx)
  rw[FU CI]
  refine (lv2_any q qs gx (hI.heap (hW.heap HX3.out) (fun e=>(HD3.out.le hW).D.hS.row_ne (hW.heap HX3.out) (by decide) e)) y).mono ?_
  rintro e w' ⟨rfl,hb⟩
  exact⟨rfl,hI.trans (Fp.of_le (Le.mk hb)),KT.of_le (Le.mk hb)⟩) (Fp.refl _ _) (Cy s1))
 clear HN HD1 HX HF2 HO2 HA2 HX2 H1C H3 HG3 hs1
 have y6:w3.cell? ⟨a,6,none⟩=some sv:=Ae HD3.out.ha 6
 go_wp2_with fail
 refine (HQ.out w3 (Le.refl _)).mono ?_
 rintro e w4 ⟨sv2,rfl,ho,hob,hI⟩
 have HF4:=Aa hI
 have HO4:=Aa ho
 have HA4:=Aa (HF4.out.heap HD3.out.ha (fun e=>HD3.out.D.hS.row_ne HD3.out.ha (by decide) e))
 have HX4:=Aa (HF4.out.heap HX3.out (fun e=>HD3.out.D.hS.row_ne HX3.out (by decide) e))
 have H1C:=Aa (AF ho)
 clear ho hob hI y6 HQ
 go_upto_region 3 with (refine Ao rfl 60 (.tmp 22) (.tmp 20) rfl [.int .i64 s1.mp,.int .i64 s1.mt,.int .i64 s1.ms,.int .i64 s1.ml,pv2,tv] (v:=sv2) (old:=sv) (post:=[]) rfl rfl (by kernel_rfl) H1C.out HA4.out ?_;intro w5 h5 hg5;have H5:=Aa h5;have HG5:=Aa hg5;clear h5 hg5)
 have HN:=Aa (HD3.out.newSubs (l:=s1.subs.filter fun x=>decide (x.who≠q.who)) HF4.out (by rw[← whoS_ne,← CB CI];exact HO4.out.mono fun k _ hk=>.inl hk) HG5.out H5.out)
 have HX5:=Aa (Ai HG5.out HX4.out (by intro e;injection e with e;exact AS HA4.out HX4.out (by decide) e))
 obtain⟨s2,hs2⟩:∃ s2,s2=s1.setSubs (s1.subs.filter fun x=>decide (x.who≠q.who)):=⟨_,rfl⟩
 rw[← hs2] at HN
 have HE:=Aa (show s.leave q=(s2.cut (fun t=>decide (t.owner=q.who)),0) by rw[hs2,HS1.out];rfl)
 have HD5:=Aa (HN.out.1.mono (M':=Gn M w) fun k _ hk=>hk.elim _root_.id fun hk=>.inr (Nat.le_trans HF3.out.size hk))
 have HF5:=Aa (HF3.out.gn HN.out.2)
 have ho2:s2.tracks.Pairwise fun a b=>a.id<b.id:=by rw[hs2,HS1.out];exact HOK.out.tracks
 have hn2:s2.tracks.length≤1000:=by rw[hs2,HS1.out];show s.tracks.length≤1000;omega
 have hn3:s2.subs.length≤1000:=by rw[hs2];exact Nat.le_trans (List.length_filter_le _ _) (by omega)
 have HDR:=Aa (Hh HD5.out ho2 hn2 hn3 202 #[.pointer (some ⟨gx,0,none⟩)] (Bt Tryz.func202 (by kernel_rfl) rfl) (fun t=>decide (t.owner=q.who)) (fun t ht W' hf=>lv3_any q qs gx (hf.heap HX5.out (fun e=>HD5.out.D.hT.row_ne HX5.out (by decide) e)) t (trk_one HD5.out.D ht)))
 clear HN HD3 HX3 HF4 HO4 HA4 HX4 H1C H5 HG5 hs2 ho2 hn2 hn3 hn1
 go_wp2_with fail
 refine HDR.out.mono ?_
 rintro e w6 ⟨⟨v,rfl⟩,h2,h3⟩
 have H2:=Aa h2
 have H3:=Aa h3
 clear h2 h3
 go_wp2_with fail
 rw[HR.out,HE.out]
 obtain⟨p1,p2,p3,p4,h4⟩:=H2.out
 exact⟨rfl,⟨p1,p2,p3,p4,h4.mono fun k _ hk=>hk.elim _root_.id fun hk=>.inr (Nat.le_trans HF5.out.size hk)⟩,HF5.out.gn H3.out⟩
end
section
variable {M M':Nat→Prop} {w w' w'':World} {a:Nat} {s:DS} {pv tv sv:Value} {ts:List (Trk×Value)}
theorem GF (h:DtB M w a s pv tv sv ts) (ok:s.Ok) (fw:s.Few) (hfr:∀ t∈s.tracks,t.from_<4611686018427387904) (q:Rq) (A:Option Addr) (cap:Nat) (hc:Bk w A (CA q.ssrcs)) (hn:q.ssrcs.length≤1000) (hcap:q.ssrcs.length≤cap) (hA:A=none→q.ssrcs.length=0∧cap=0):Calls Tryz.prog 166 #[.pointer (some ⟨a,0,none⟩),rqV q (.slice A q.ssrcs.length cap)] w (DoP M w a (s.replace q)):=by
 obtain⟨l1,l2,l3⟩:=lens ok fw
 have HL:=Aa ((Le.refl w).alloc (.cells #[.int .i64 q.kind,.int .i64 q.who,.int .i64 q.room,.int .i64 q.rights,.int .i64 q.track,.slice A q.ssrcs.length cap,.int .i64 q.layer,.int .i64 q.tid] 31))
 have HX:=Aa (heap_alloc_new w (.cells #[.int .i64 q.kind,.int .i64 q.who,.int .i64 q.room,.int .i64 q.rights,.int .i64 q.track,.slice A q.ssrcs.length cap,.int .i64 q.layer,.int .i64 q.tid] 31))
 have HOW:=Aa (own_any (h.le HL.out) ok fw q (.slice A q.ssrcs.length cap) rfl)
 have H0:=Aa h
 have HC:=Aa hc
 have HFR:=Aa hfr
 have HAN:=Aa hA
 obtain⟨R,hR⟩:∃ R,R=DoP M w a (s.replace q):=⟨_,rfl⟩
 rw[← hR]
 have HR:=Aa hR
 clear hR h hc hfr hA
 show Calls Tryz.prog 166 #[.pointer (some ⟨a,0,none⟩),.agg #[.int .i64 q.kind,.int .i64 q.who,.int .i64 q.room,.int .i64 q.rights,.int .i64 q.track,.slice A q.ssrcs.length cap,.int .i64 q.layer,.int .i64 q.tid]] w R
 go_enter Tryz.func166,Tryz.ntmps166
 go_upto_region 1 with fail
 generalize w.alloc (.cells #[.int .i64 q.kind,.int .i64 q.who,.int .i64 q.room,.int .i64 q.rights,.int .i64 q.track,.slice A q.ssrcs.length cap,.int .i64 q.layer,.int .i64 q.tid] 31)=w1 at *
 generalize w.heap.size=gx at *
 go_wp2_with (refine Al rfl 31 (.tmp 3) rfl (cs:=[.int .i64 q.kind,.int .i64 q.who,.int .i64 q.room,.int .i64 q.rights,.int .i64 q.track,.slice A q.ssrcs.length cap,.int .i64 q.layer,.int .i64 q.tid]) _ rfl Tryz.underlying31 rfl (by kernel_rfl) HX.out ?_)
 refine HOW.out.mono ?_
 rintro e w2 ⟨hl,h1,h2⟩
 have HL2:=Aa (HL.out.trans hl)
 have HX2:=Aa (hl.heap HX.out)
 have HD2:=Aa (H0.out.le HL2.out)
 clear hl HOW HX
 by_cases h0:s.ownE q=0
 ·obtain⟨hT,g,n,c,e1,rfl⟩:=h2 h0
  have HOE:=Aa h0
  have HT:=Aa hT
  have HE1:=Aa e1
  have y5:w2.cell? ⟨gx,5,none⟩=some (.slice A q.ssrcs.length cap):=Ae HX2.out 5
  have HMY:=Aa (fun (W:World) (hW:Le w2 W)=>GV W A q.ssrcs cap (AI HC.out (HL2.out.trans hW)) hn hcap)
  clear h1 h2 h0 hT e1
  obtain⟨i,hi⟩:∃ i,i=s.tAt q.track:=⟨_,rfl⟩
  rw[← hi]
  have HI:=Aa hi
  clear hi
  go_wp2_with fail
  refine (HMY.out w2 (Le.refl _)).mono ?_
  rintro e w3 ⟨rfl,hb⟩
  have HL3:=Aa (HL2.out.trans (Le.mk hb))
  have HX3:=Aa ((Le.mk hb).heap HX2.out)
  clear hb HMY y5 HX2 HD2
  cases hm:Ew q.ssrcs
  ·have HE:=Aa (show s.replace q=(s,1) by rw[DS.replace,if_neg (by simp[HOE.out]),hm];rfl)
   clear hm
   go_wp2_with fail
   rw[HR.out,HE.out]
   exact DoP.same H0.out HL3.out (r:=(s,1)) rfl
  ·have HM:=Aa hm
   clear hm
   go_upto_region 6 with fail
   have HD6:=Aa (H0.out.le (HL3.out.trans (Le.refl w3).drew))
   have HX6:=Aa ((Le.refl w3).drew.heap HX3.out)
   have HC6:=Aa (AI HC.out (HL3.out.trans (Le.refl w3).drew))
   refine' Aj 6 6 23 Le (Is _::Is _::Is _::Is _::Is _::Is _::[]) ([]::[0]::[1]::[]::[3]::[2,4]::[]) (by kernel_rfl) (by kernel_rfl) (by rfl) (by kernel_rfl) (by kernel_rfl) Le.refl (fun _ _ _ h h'=>h.trans h') ⟨St.is,St.is,St.is,St.is,St.is,St.is,trivial⟩ ?m6
   case m6 =>
    simp (maxSteps:=100000000) only [AR,Bv,AK,AC,An,AD,Am,Au,List.set_cons_succ,List.set_cons_zero,List.getElem?_cons_zero,List.getElem?_cons_succ,List.take_succ_cons,List.take_zero,List.drop_succ_cons,List.drop_zero,List.cons_append,List.nil_append,List.length_cons,List.length_nil,Nat.reduceAdd]
    intro x0 x1 x2 x3 x4 x5
    refine⟨⟨?_,?_,?_,?_,?_,?_,trivial⟩,?_⟩
    ·intro wo hw KQ hK;go_simp;exact hK _ _ .r .m
    ·intro wo hw h0 KQ hK;cases h0;go_simp;exact hK _ _ .r .m
    ·intro wo hw h1 KQ hK;cases h1;refine cast (if_pos (show Region.wanted _ _=true from rfl)).symm ?_;have hz:=(hw.heap HD6.out.ha);refine Av 62 (.tmp 24) rfl (cs:=[.int .i64 s.mp,.int .i64 s.mt,.int .i64 s.ms,.int .i64 s.ml,pv,tv,sv]) _ rfl Tryz.underlying62 rfl (by kernel_rfl) hz ?_;exact hK _ _ .r .m
    ·intro wo hw KQ hK;go_simp;exact hK _ _ .r .m
    ·intro wo hw h3 KQ hK;cases h3;have kk:=Af (hw.heap HX6.out) 5 (.slice A q.ssrcs.length cap) rfl wo (Le.refl _);go_simp;exact hK _ _ .r .m
    ·intro wo hw h2 h4 KQ hK;cases h2;cases h4;go_simp;refine (FF (HD6.out.D.le hw) ok fw A q.ssrcs cap (AI HC6.out hw) (by omega)).mono ?_;rintro e w' ⟨rfl,hb⟩;exact hK _ _ (Le.mk hb) (Is.mk _ _)
    ·intro wz hz h0 h1 h2 h3 h4 h5;cases h0;cases h1;cases h2;cases h3;cases h4;cases h5;skip
     have HL7:=Aa ((HL3.out.trans (Le.refl w3).drew).trans hz)
     have HX7:=Aa (hz.heap HX6.out)
     have HD7:=Aa (H0.out.le HL7.out)
     clear HD6 HX6 HC6 HX3 HL3 hz
     cases hk:s.taken q.ssrcs
     ·have HK:=Aa hk
      clear hk
      have y5:wz.cell? ⟨gx,5,none⟩=some (.slice A q.ssrcs.length cap):=Ae HX7.out 5
      have HCL:=Aa (C5 wz A q.ssrcs.length cap (CA q.ssrcs) (AI HC.out HL7.out) (by rw[CA,List.length_map];omega) HAN.out (by omega) (by intro u hu;rw[CA] at hu;obtain⟨z,_,rfl⟩:=List.mem_map.1 hu;rfl))
      go_wp2_with fail
      refine HCL.out.mono ?_
      rintro e w8 ⟨v8,rfl,hown,hle8⟩
      have HL8:=Aa (HL7.out.trans hle8)
      have HO8:=Aa ((AA.of_base (ys:=q.ssrcs.map DI) (by rw[Dn];exact hown) (by rw[List.length_map]) (by intro y hy;obtain⟨p,_,rfl⟩:=List.mem_map.1 hy;rfl)).mono (M':=Gn M w) (fun k _ hk=>.inr (Nat.le_trans HL7.out.size hk)))
      have HD8:=Aa ((H0.out.le HL8.out).mono (M':=Gn M w) fun k _ hk=>.inl hk)
      clear hown hle8 HCL y5 HD7 HX7 HL7
      have H1C:=Aa (AF HO8.out)
      obtain⟨hlt,hid⟩:=EK ok HT.out
      rw[← HI.out] at hlt
      obtain⟨t0,e⟩:∃ t0,ts[i]?=some t0:=⟨_,List.getElem?_eq_getElem (show i<ts.length by rw[H0.out.D.lenT];exact hlt)⟩
      obtain⟨g',cap',pre,post,htv,hMg,hpre,hg⟩:=HD8.out.D.hT.cut (i:=i) (x:=trC t0) (by rw[List.getElem?_map,e];rfl)
      rw[HE1.out] at htv
      obtain⟨rfl,rfl,rfl⟩:g=g'∧n=(ts.map trC).length∧c=cap':=by
       simp only[Value.slice.injEq,Option.some.injEq,Addr.mk.injEq,and_true] at htv
       exact⟨htv.1,htv.2.1,htv.2.2⟩
      have h8:s.tracks[i]?=some t0.1:=by rw[← H0.out.D.eT,List.getElem?_map,e];rfl
      have HTR:=Aa (show s.trk q.track=t0.1 by rw[DS.trk,← HI.out,List.getD,h8,Option.getD_some])
      have hf1:=HFR.out _ (List.mem_of_getElem? h8)
      have hf0:=(ok.tIn _ (List.mem_of_getElem? h8)).2.2.2
      have HEE:=Aa e
      have HPRE:=Aa hpre
      have HG:=Aa hg
      have HMG:=Aa hMg
      clear e hpre hg hMg h8 hlt hid htv
      obtain⟨⟨ti,tw,tf,tl⟩,tvv⟩:=t0
      dsimp only at hf1 hf0 HTR
      have q1:IntKind.i64.wrap (tf+1)=tf+1:=IntWalk.i64_in _ (by omega)
      go_upto_region 9 with (refine Ao rfl 29 (.tmp 34) (.tmp 32) rfl (pre++[.int .i64 ti,.int .i64 tw,.int .i64 tf]) (v:=v8) (old:=tvv) (post:=post) (by rw[List.length_append,HPRE.out];rfl) rfl (by kernel_rfl) H1C.out (by have:=HG.out;simpa[trC] using this) ?_;intro w9 h9 hg9;have H9:=Aa h9;have HG9:=Aa hg9;clear h9 hg9)
      have y2:w9.cell? ⟨g,i*4+2,none⟩=some (.int .i64 tf):=by
       have h0:pre.length≤i*4+2:=by rw[HPRE.out];omega
       rw[Ae H9.out,List.append_assoc,List.getElem?_toArray,List.getElem?_append_right h0,HPRE.out,Nat.add_sub_cancel_left];rfl
      go_wp2_with (refine Ao rfl 3 (.tmp 41) (.tmp 39) rfl (pre++[.int .i64 ti,.int .i64 tw]) (v:=.int .i64 (tf+1)) (old:=.int .i64 tf) (post:=v8::post) (by rw[List.length_append,HPRE.out];rfl) rfl (by kernel_rfl) rfl (by have:=H9.out;simpa using this) ?_;intro w10 h10 hg10;have H10:=Aa h10;have HG10:=Aa hg10;clear h10 hg10)
      have HE:=Aa (show s.replace q=(s.setTracks (s.tracks.set i ⟨ti,tw,tf+1,q.ssrcs⟩),0) by rw[DS.replace,if_neg (by simp[HOE.out]),HM.out,HK.out,HTR.out,HI.out];rfl)
      rw[HR.out,HE.out]
      have ne9:a≠g:=AS HD8.out.ha HG.out (by decide)
      have ha9:=Ai HG9.out HD8.out.ha (by intro e;injection e with e;exact ne9 e.symm)
      have ha10:=Ai HG10.out ha9 (by intro e;injection e with e;exact ne9 e.symm)
      have OT:∀ {T sz:Nat} {v:Value} {xs:List (List Value)},AA (Gn M w) w8 T sz v xs→T≠182→AA (Gn M w) w10 T sz v xs:=fun h hn=>(h.other HG9.out HG.out hn).other HG10.out H9.out hn
      have HT8:=HD8.out.D.hT
      rw[HE1.out] at HT8
      have HT10:=HT8.put (w':=w10) (i:=i) (x:=trC (⟨ti,tw,tf,tl⟩,tvv)) (y:=trC (⟨ti,tw,tf+1,q.ssrcs⟩,v8)) (by rw[List.getElem?_map,HEE.out];rfl) HPRE.out HG.out rfl (by have:=H10.out;simpa[trC] using this)
      refine⟨rfl,⟨pv,tv,sv,ts.set i (⟨ti,tw,tf+1,q.ssrcs⟩,v8),⟨ha10,HD8.out.Ma,⟨OT HD8.out.D.hP (by decide),?_,OT HD8.out.D.hS (by decide),?_,fun t ht=>?_⟩⟩⟩,(Fp.of_le HL8.out).gn ((Fp.of_grown HG9.out HMG.out).trans (Fp.of_grown HG10.out HMG.out))⟩
      ·rw[List.map_set,HE1.out];exact HT10
      ·rw[List.map_set,HD8.out.D.eT];rfl
      ·rcases List.mem_or_eq_of_mem_set ht with ht | rfl
       ·exact OT (HD8.out.D.hR t ht) (by decide)
       ·exact OT HO8.out (by decide)
     ·have HE:=Aa (show s.replace q=(s,22) by rw[DS.replace,if_neg (by simp[HOE.out]),HM.out,hk];rfl)
      clear hk
      go_wp2_with fail
      rw[HR.out,HE.out]
      exact DoP.same H0.out HL7.out (r:=(s,22)) rfl
 ·obtain rfl:=h1 h0
  have HE:=Aa (show s.replace q=(s,s.ownE q) by rw[DS.replace,if_pos h0])
  have hz:(s.ownE q !=0)=true:=by rw[bne_iff_ne];exact h0
  clear h1 h2 h0
  generalize s.ownE q=z at *
  go_wp2_with fail
  rw[HR.out,HE.out]
  exact DoP.same H0.out HL2.out (r:=(s,z)) rfl
end
theorem Fp.le_new {S:Nat→Prop} {w0 w w':World} (h0:Le w0 w) (h:Fp S w w') (hs:∀ k,S k→w0.heap.size≤k):Le w0 w' :=
 Le.mk ⟨h.os.trans h0.out.os,h.tape.trans h0.out.tape,h.output.trans h0.out.output,Nat.le_trans h0.out.size h.size,fun k hk=>(h.block k (Nat.lt_of_lt_of_le hk h0.out.size) (fun e=>by have:=hs k e;omega)).trans (h0.out.block k hk)⟩
section
variable {M M':Nat→Prop} {w w' w'':World} {a:Nat} {s:DS} {pv tv sv:Value} {ts:List (Trk×Value)}
theorem gone1_any (h:DsB M w s pv tv sv ts) (ok:s.Ok) (fw:s.Few) (b:Nat) (hb:w.heap[b]?=some (.cells #[.int .i64 s.mp,.int .i64 s.mt,.int .i64 s.ms,.int .i64 s.ml,pv,tv,sv] 62 (0,0))) (x:Sub):Calls Tryz.prog 174 #[.agg (BC x).toArray,.pointer (some ⟨b,0,none⟩)] w (Ax w (.bool (s.hasS x.who x.track))):=by
 have HL:=Aa ((Le.refl w).alloc (.cells #[.int .i64 x.who,.int .i64 x.track,.int .i64 x.layer,.int .i64 x.tid,.bool x.muted] 133))
 have HX:=Aa (heap_alloc_new w (.cells #[.int .i64 x.who,.int .i64 x.track,.int .i64 x.layer,.int .i64 x.tid,.bool x.muted] 133))
 have HT:=Aa h
 have HB:=Aa hb
 obtain⟨R,hR⟩:∃ R,R=Ax w (.bool (s.hasS x.who x.track)):=⟨_,rfl⟩
 rw[← hR]
 have HR:=Aa hR
 clear hR h hb
 show Calls Tryz.prog 174 #[.agg #[.int .i64 x.who,.int .i64 x.track,.int .i64 x.layer,.int .i64 x.tid,.bool x.muted],.pointer (some ⟨b,0,none⟩)] w R
 go_enter Tryz.func174,Tryz.ntmps174
 go_upto_region 1 with fail
 generalize w.alloc (.cells #[.int .i64 x.who,.int .i64 x.track,.int .i64 x.layer,.int .i64 x.tid,.bool x.muted] 133)=w1 at *
 generalize w.heap.size=gx at *
 have HB1:=Aa (HL.out.heap HB.out)
 have y0:=Af HX.out 0 (.int .i64 x.who) rfl w1 (Le.refl _)
 have y1:=Af HX.out 1 (.int .i64 x.track) rfl w1 (Le.refl _)
 go_wp2_with (refine Al rfl 62 (.tmp 1) rfl (cs:=[.int .i64 s.mp,.int .i64 s.mt,.int .i64 s.ms,.int .i64 s.ml,pv,tv,sv]) _ rfl Tryz.underlying62 rfl (by kernel_rfl) HB1.out ?_)
 refine (D2 (HT.out.le HL.out) ok fw _ _).mono ?_
 rintro e w3 ⟨rfl,hb⟩
 have HLZ:=Aa (HL.out.trans (Le.mk hb))
 clear hb y0 y1 HB1 HX HT HB
 go_wp2_with fail
 rw[HR.out]
 exact⟨rfl,HLZ.out.out⟩
theorem gone_any {s2:DS} {pv2 tv2 sv2:Value} {ts2:List (Trk×Value)} (h:DsB M w s pv tv sv ts) (hn:s.subs.length≤1000) (h2:DsB M' w s2 pv2 tv2 sv2 ts2) (ok:s2.Ok) (fw:s2.Few) :
  Calls Tryz.prog 121 #[dsV s pv tv sv,dsV s2 pv2 tv2 sv2] w fun e w'=>∃ v,e=.returned v∧AA (fun k=>w.heap.size≤k) w' 133 5 v ((DS.gone s s2).map BC)∧Le w w':=by
 obtain⟨A,cap,hsv,hcl,hA,hcap⟩:=h.hS.cells
 rw[List.length_map] at hsv hcap
 subst hsv
 have HAN:=Aa (show A=none→s.subs.length=0∧cap=0 from fun e=>by obtain⟨e1,e2⟩:=hA e;exact⟨by have:=congrArg List.length e1;simpa using this,e2⟩)
 have HL:=Aa ((Le.refl w).alloc (.cells #[.int .i64 s.mp,.int .i64 s.mt,.int .i64 s.ms,.int .i64 s.ml,pv,tv,.slice A s.subs.length cap] 62))
 have HX:=Aa (heap_alloc_new w (.cells #[.int .i64 s.mp,.int .i64 s.mt,.int .i64 s.ms,.int .i64 s.ml,pv,tv,.slice A s.subs.length cap] 62))
 obtain⟨w1,hw1⟩:∃ w1,w1=w.alloc (.cells #[.int .i64 s.mp,.int .i64 s.mt,.int .i64 s.ms,.int .i64 s.ml,pv,tv,.slice A s.subs.length cap] 62):=⟨_,rfl⟩
 rw[← hw1] at HL HX
 have HL1:=Aa ((Le.refl w1).alloc (.cells #[.int .i64 s2.mp,.int .i64 s2.mt,.int .i64 s2.ms,.int .i64 s2.ml,pv2,tv2,sv2] 62))
 have HX1:=Aa (heap_alloc_new w1 (.cells #[.int .i64 s2.mp,.int .i64 s2.mt,.int .i64 s2.ms,.int .i64 s2.ml,pv2,tv2,sv2] 62))
 obtain⟨w2,hw2⟩:∃ w2,w2=w1.alloc (.cells #[.int .i64 s2.mp,.int .i64 s2.mt,.int .i64 s2.ms,.int .i64 s2.ml,pv2,tv2,sv2] 62):=⟨_,rfl⟩
 rw[← hw2] at HL1 HX1
 have HL2:=Aa (HL.out.trans HL1.out)
 have hsz:w1.heap.size=w.heap.size+1:=by rw[hw1];show (w.heap.push _).size=_;rw[Array.size_push]
 rw[hsz] at HX1
 have HC:=Aa (El w2 A s.subs.length cap (s.subs.map BC).flatten (AI hcl HL2.out) (by rw[AJ (s:=5) (by intro y hy;obtain⟨p,_,rfl⟩:=List.mem_map.1 hy;rfl),List.length_map]) HAN.out (by omega) (by intro u hu;obtain⟨y,hy,hu⟩:=List.mem_flatten.1 hu;exact Cy s y hy u hu))
 have H2:=Aa h2
 have HDF:=Aa (fun (W0:World) (v:Value) (hW:Le w2 W0) (hO:AA (fun k=>w2.heap.size≤k) W0 133 5 v (s.subs.map BC))=>df_sub (w:=W0) hO (by rw[List.length_map];omega) 174 #[.pointer (some ⟨w.heap.size+1,0,none⟩)] (Bt Tryz.func174 (by kernel_rfl) rfl) (ofC BC fun y=>s2.hasS y.who y.track) (fun _ W=>Fp (fun k=>v.ownBlock=some k) W0 W) (fun _ _ _ h hf=>h.trans hf) (fun j x W hx hI=>by
  obtain⟨y,hy,rfl⟩:=List.mem_map.1 (List.mem_of_getElem? hx)
  rw[FU CI]
  have hle:Le w2 W:=Fp.le_new hW hI fun k hk=>hO.blk k hk
  refine (gone1_any (H2.out.le (HL2.out.trans hle)) ok fw (w.heap.size+1) (hle.heap HX1.out) y).mono ?_
  rintro e w' ⟨rfl,hb⟩
  exact⟨rfl,hI.trans (Fp.of_le (Le.mk hb)),KT.of_le (Le.mk hb)⟩) (Fp.refl _ _) (Cy s))
 obtain⟨R,hR⟩:∃ R:Ending→World→Prop,R=fun e w'=>∃ v,e=.returned v∧AA (fun k=>w.heap.size≤k) w' 133 5 v ((DS.gone s s2).map BC)∧Le w w':=⟨_,rfl⟩
 rw[← hR]
 have HR:=Aa hR
 have HW1:=Aa hw1
 have HW2:=Aa hw2
 have y0:w2.cell? ⟨w.heap.size,6,none⟩=some (.slice A s.subs.length cap):=HL1.out.cell (Ae HX.out 6)
 clear hR h h2 hcl hA hcap hw1 hw2 hsz
 show Calls Tryz.prog 121 #[.agg #[.int .i64 s.mp,.int .i64 s.mt,.int .i64 s.ms,.int .i64 s.ml,pv,tv,.slice A s.subs.length cap],.agg #[.int .i64 s2.mp,.int .i64 s2.mt,.int .i64 s2.ms,.int .i64 s2.ml,pv2,tv2,sv2]] w R
 go_enter Tryz.func121,Tryz.ntmps121
 go_upto_region 1 with fail
 rw[← HW1.out,← HW2.out]
 go_wp2_with fail
 refine HC.out.mono ?_
 rintro e w3 ⟨v3,rfl,hown,hle3⟩
 have HL3:=Aa hle3
 have HO3:=Aa (AA.of_base (ys:=s.subs.map BC) hown (by rw[List.length_map]) (by intro y hy;obtain⟨p,_,rfl⟩:=List.mem_map.1 hy;rfl))
 clear hown hle3
 go_wp2_with fail
 refine (HDF.out w3 v3 HL3.out HO3.out).mono ?_
 rintro e w4 ⟨v4,rfl,ho,hob,hI⟩
 have HO4:=Aa ho
 have HI4:=Aa hI
 clear ho hob hI
 go_wp2_with fail
 rw[HR.out]
 refine⟨v4,rfl,?_,Fp.le_new (HL2.out.trans HL3.out) HI4.out fun k hk=>Nat.le_trans HL2.out.size (HO3.out.blk k hk)⟩
 rw[DS.gone,← CB CI]
 exact HO4.out.mono fun k _ hk=>Nat.le_trans HL2.out.size hk
end
end Go.Proofs.YtmcndlofaanjiaaGreat
