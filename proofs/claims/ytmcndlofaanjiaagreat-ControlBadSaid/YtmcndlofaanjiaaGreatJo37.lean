/- Texts of one claim, laid together: CtT Lb1 Lb2 -/
import Derived.Test.YtmcndlofaanjiaaGreatJo32
import Derived.Test.YtmcndlofaanjiaaGreatJo10
import Derived.Test.YtmcndlofaanjiaaGreatJo22
import Derived.Test.YtmcndlofaanjiaaGreatJo36
/- control.State. (Written by gen_ctst2.py out of delta's clone.) -/
namespace Go.Proofs.YtmcndlofaanjiaaGreat
open Go.RowKit
set_option linter.unusedVariables false
set_option maxRecDepth 100000
set_option maxHeartbeats 8000000
theorem stateB {M:Nat→Prop} {w:World} {c:Nat} {cf:Cf} {s:DS} {ever:Nat} {ar pn bd iq sn sm:Nat} {tb:Option Nat} {pv tv sv wv:Value} {ts:List (Trk×Value)} (hc:w.heap[c]?=some (.cells (ctC cf s ⟨ar,pn,bd,iq,sn,sm,tb,pv,tv,sv,wv⟩ ever).toArray 156 (0,0))) (h:DsB M w s pv tv sv ts) (ok:s.Ok) (fw:s.Few):Calls Tryz.prog 20 #[.pointer (some ⟨c,0,none⟩)] w (EQ w s):=by
 obtain⟨l1,l2,l3⟩:=lens ok fw
 have LT:=Aa h.lenT
 have h1t:=Ff h
 obtain⟨Ap,cp,hpv,hpc,hpn,_⟩:=h.hP.cells
 obtain⟨At,ct,htv,htc,htn,_⟩:=h.hT.cells
 obtain⟨As,cs,hsv,hsc,hsn,_⟩:=h.hS.cells
 rw[List.length_map] at hpv htv hsv
 subst hpv htv hsv
 have H:=Aa h
 have HPC:=Aa hpc
 have HTC:=Aa htc
 have HSC:=Aa hsc
 have H1T:=Aa h1t
 have HPN:=Aa (show Ap=none→s.people.length=0∧cp=0 from fun e=>by obtain⟨a,b⟩:=hpn e;exact⟨by simpa using congrArg List.length a,b⟩)
 have HTN:=Aa (show At=none→ts.length=0∧ct=0 from fun e=>by obtain⟨a,b⟩:=htn e;exact⟨by simpa using congrArg List.length a,b⟩)
 have HSN:=Aa (show As=none→s.subs.length=0∧cs=0 from fun e=>by obtain⟨a,b⟩:=hsn e;exact⟨by simpa using congrArg List.length a,b⟩)
 obtain⟨R,hR⟩:∃ R,R=EQ w s:=⟨_,rfl⟩
 rw[← hR]
 have HR:=Aa hR
 have HCC:=Aa (show w.heap[c]?=some (.cells (([.int .i64 cf.shards,.int .i64 cf.intake,.int .i64 cf.window,.int .i64 cf.keep,.int .i64 s.mp,.int .i64 s.mt,.int .i64 s.ms,.int .i64 s.ml,.pointer (some ⟨ar,0,none⟩),.pointer (some ⟨pn,0,none⟩),.pointer (some ⟨bd,0,none⟩),.pointer (some ⟨iq,0,none⟩),.pointer (some ⟨sn,0,none⟩)]:List Value)++(([.int .i64 s.mp,.int .i64 s.mt,.int .i64 s.ms,.int .i64 s.ml,.slice Ap s.people.length cp,.slice At ts.length ct,.slice As s.subs.length cs]:List Value)++([Cp tb,.int .u32 ever,.map (some sm),wv]:List Value))).toArray 156 (0,0)) from hc)
 have HZ1:=Aa ((Le.refl w).alloc (.cells #[.int .i64 0,.int .i64 0,.int .i64 0,.int .i64 0,.slice none 0 0,.slice none 0 0,.slice none 0 0] 62))
 have HY1:=Aa (heap_alloc_new w (.cells #[.int .i64 0,.int .i64 0,.int .i64 0,.int .i64 0,.slice none 0 0,.slice none 0 0,.slice none 0 0] 62))
 have HS1:=Aa (show (w.alloc (.cells #[.int .i64 0,.int .i64 0,.int .i64 0,.int .i64 0,.slice none 0 0,.slice none 0 0,.slice none 0 0] 62)).heap.size=w.heap.size+1 by show (w.heap.push _).size=_;rw[Array.size_push])
 clear hR h hc hpc htc hsc hpn htn hsn h1t
 go_enter Tryz.func20,Tryz.ntmps20
 go_upto_region 3 with fail
 generalize World.alloc w _=w0 at *
 have HC0:=Aa (HZ1.out.heap HCC.out)
 go_upto_region 4 with (first | (refine CR rfl 62 (.tmp 10) rfl [.int .i64 cf.shards,.int .i64 cf.intake,.int .i64 cf.window,.int .i64 cf.keep,.int .i64 s.mp,.int .i64 s.mt,.int .i64 s.ms,.int .i64 s.ml,.pointer (some ⟨ar,0,none⟩),.pointer (some ⟨pn,0,none⟩),.pointer (some ⟨bd,0,none⟩),.pointer (some ⟨iq,0,none⟩),.pointer (some ⟨sn,0,none⟩)] [.int .i64 s.mp,.int .i64 s.mt,.int .i64 s.ms,.int .i64 s.ml,.slice Ap s.people.length cp,.slice At ts.length ct,.slice As s.subs.length cs] [Cp tb,.int .u32 ever,.map (some sm),wv] _ rfl Tryz.underlying62 rfl (by kernel_rfl) HC0.out ?_) | (refine Ak rfl 62 (.tmp 3) (.tmp 11) (cs:=[.int .i64 s.mp,.int .i64 s.mt,.int .i64 s.ms,.int .i64 s.ml,.slice Ap s.people.length cp,.slice At ts.length ct,.slice As s.subs.length cs]) rfl rfl rfl (by kernel_rfl) (GM rfl rfl rfl) (heap_alloc_new _ _) rfl ?_;intro w1 hn1 hg1;have HX:=Aa hn1;have HL1:=Aa (((Le.refl w0).alloc _).box1 hg1 (Nat.le_refl _));clear hn1 hg1))
 have HL:=Aa (HZ1.out.trans HL1.out)
 have HY:=Aa (HL1.out.heap HY1.out)
 have HGX:=Aa (show w.heap.size<w0.heap.size by have:=HS1.out;omega)
 clear HL1 HZ1 HY1 HS1 HC0 HCC
 generalize w0.heap.size=gx at *
 generalize hgy:w.heap.size=gy at *
 have HGY:=Aa hgy
 have HGX:=Aa (show w.heap.size=gy∧gy<gx from ⟨hgy,HGX.out⟩)
 clear hgy HGY
 have HSZ:=Aa HL.out.size
 have c1:w1.cell? ⟨gx,4,none⟩=some (.slice Ap s.people.length cp):=Ae HX.out 4
 go_wp2_with fail
 refine (FW w1 _ _ _ (s.people.map Ds).flatten (AI HPC.out HL.out) (by rw[AJ (s:=3) (by intro y hy;obtain⟨p,_,rfl⟩:=List.mem_map.1 hy;rfl),List.length_map]) HPN.out (by omega) (Bf (Fq s))).mono ?_
 rintro r w1a ⟨v1,rfl,ho,hl⟩
 have HO1:=Aa (AA.of_base ho (by rw[List.length_map]) (by intro y hy;obtain⟨p,_,rfl⟩:=List.mem_map.1 hy;rfl))
 have HLa:=Aa (HL.out.trans hl)
 have HXa:=Aa (hl.heap HX.out)
 have HYa:=Aa (hl.heap HY.out)
 clear ho hl HL HX HY c1
 go_upto_region 5 with (refine Ao rfl 58 (.tmp 15) (.tmp 14) rfl [.int .i64 s.mp,.int .i64 s.mt,.int .i64 s.ms,.int .i64 s.ml] (v:=v1) (old:=.slice Ap s.people.length cp) (post:=[.slice At ts.length ct,.slice As s.subs.length cs]) rfl rfl (by kernel_rfl) (AF HO1.out) HXa.out ?_;intro w1b h3 hg3;have HX:=Aa h3;have HG:=Aa hg3;clear h3 hg3)
 have HL:=Aa (show Le w w1b from (HLa.out).box1 HG.out (by have:=HGX.out;omega))
 have HY:=Aa (Ai HG.out HYa.out (by intro e;injection e with e;have:=HGX.out;omega))
 have HO1z:=Aa ((HO1.out.other HG.out HXa.out (by decide)).mono (M':=fun k=>w.heap.size≤k) fun k _ hk=>Nat.le_trans HSZ.out hk)
 clear HO1 HLa HXa HYa HG
 have HO1:=HO1z
 clear HO1z
 have HSZ:=Aa HL.out.size
 have c2:w1b.cell? ⟨gx,6,none⟩=some (.slice As s.subs.length cs):=Ae HX.out 6
 go_wp2_with fail
 refine (El w1b _ _ _ (s.subs.map BC).flatten (AI HSC.out HL.out) (by rw[AJ (s:=5) (by intro y hy;obtain⟨p,_,rfl⟩:=List.mem_map.1 hy;rfl),List.length_map]) HSN.out (by omega) (Bf (Cy s))).mono ?_
 rintro r w1ba ⟨v3,rfl,ho,hl⟩
 have HO2:=Aa (AA.of_base ho (by rw[List.length_map]) (by intro y hy;obtain⟨p,_,rfl⟩:=List.mem_map.1 hy;rfl))
 have HLa:=Aa (HL.out.trans hl)
 have HXa:=Aa (hl.heap HX.out)
 have HYa:=Aa (hl.heap HY.out)
 have HO1a:=Aa (HO1.out.le hl)
 clear ho hl HL HX HY c2 HO1
 go_upto_region 6 with (refine Ao rfl 60 (.tmp 19) (.tmp 18) rfl [.int .i64 s.mp,.int .i64 s.mt,.int .i64 s.ms,.int .i64 s.ml,v1,.slice At ts.length ct] (v:=v3) (old:=.slice As s.subs.length cs) (post:=[]) rfl rfl (by kernel_rfl) (AF HO2.out) HXa.out ?_;intro w1bb h3 hg3;have HX:=Aa h3;have HG:=Aa hg3;clear h3 hg3)
 have HL:=Aa (show Le w w1bb from (HLa.out).box1 HG.out (by have:=HGX.out;omega))
 have HY:=Aa (Ai HG.out HYa.out (by intro e;injection e with e;have:=HGX.out;omega))
 have HO2z:=Aa ((HO2.out.other HG.out HXa.out (by decide)).mono (M':=fun k=>w.heap.size≤k) fun k _ hk=>Nat.le_trans HSZ.out hk)
 have HO1:=Aa (HO1a.out.other HG.out HXa.out (by decide))
 clear HO2 HLa HXa HYa HG HO1a
 have HO2:=HO2z
 clear HO2z
 have HSZ:=Aa HL.out.size
 have c3:w1bb.cell? ⟨gx,5,none⟩=some (.slice At ts.length ct):=Ae HX.out 5
 go_wp2_with fail
 refine (FQ w1bb _ _ _ (ts.map trC).flatten (AI HTC.out HL.out) (by rw[AJ (s:=4) (by intro y hy;obtain⟨p,_,rfl⟩:=List.mem_map.1 hy;rfl),List.length_map]) HTN.out (by have:=LT.out;omega) (Bf H1T.out)).mono ?_
 rintro r w1bba ⟨v2,rfl,ho,hl⟩
 have HO3:=Aa (AA.of_base ho (by rw[List.length_map]) (by intro y hy;obtain⟨p,_,rfl⟩:=List.mem_map.1 hy;rfl))
 have HLa:=Aa (HL.out.trans hl)
 have HXa:=Aa (hl.heap HX.out)
 have HYa:=Aa (hl.heap HY.out)
 have HO1a:=Aa (HO1.out.le hl)
 have HO2a:=Aa (HO2.out.le hl)
 clear ho hl HL HX HY c3 HO1 HO2
 go_upto_region 7 with (refine Ao rfl 59 (.tmp 23) (.tmp 22) rfl [.int .i64 s.mp,.int .i64 s.mt,.int .i64 s.ms,.int .i64 s.ml,v1] (v:=v2) (old:=.slice At ts.length ct) (post:=[v3]) rfl rfl (by kernel_rfl) (AF HO3.out) HXa.out ?_;intro w1bbb h3 hg3;have HX:=Aa h3;have HG:=Aa hg3;clear h3 hg3)
 have HL:=Aa (show Le w w1bbb from (HLa.out).box1 HG.out (by have:=HGX.out;omega))
 have HY:=Aa (Ai HG.out HYa.out (by intro e;injection e with e;have:=HGX.out;omega))
 have HO3z:=Aa ((HO3.out.other HG.out HXa.out (by decide)).mono (M':=fun k=>w.heap.size≤k) fun k _ hk=>Nat.le_trans HSZ.out hk)
 have HO1:=Aa (HO1a.out.other HG.out HXa.out (by decide))
 have HO2:=Aa (HO2a.out.other HG.out HXa.out (by decide))
 clear HO3 HLa HXa HYa HG HO1a HO2a
 have HO3:=HO3z
 clear HO3z
 obtain⟨A2,c2,hv2,_,_,_⟩:=HO3.out.cells
 rw[List.length_map] at hv2
 have cc:w1bbb.cell? ⟨gx,5,none⟩=some (.slice A2 ts.length c2):=by rw[Ae HX.out 5,← hv2];rfl
 clear hv2
 go_wp2_with fail
 clear cc
 have HRR:=H.out.hR
 have HEE:=Aa H.out.eT
 go_loopw [4,27] (fun _ j wr=>∃ (k:Nat) (tl:List (Trk×Value)),k≤ts.length∧j=.int .i64 k∧Hd (tl.map (·.1)=s.tracks)∧Hd (tl.length=ts.length)∧Hd (AA (fun k=>w.heap.size≤k) wr 182 4 v2 (tl.map trC))∧Hd (∀ (i:Nat) (t:Trk×Value),i<k→tl[i]?=some t→AA (fun k=>w.heap.size≤k) wr 110 1 t.2 (t.1.ssrcs.map DI))∧Hd (∀ i:Nat,k≤i→tl[i]?=ts[i]?)∧Hd (wr.heap[gx]?=some (.cells #[.int .i64 s.mp,.int .i64 s.mt,.int .i64 s.ms,.int .i64 s.ml,v1,v2,v3] 62 (0,0)))∧Hd (wr.heap[gy]?=some (.cells #[.int .i64 0,.int .i64 0,.int .i64 0,.int .i64 0,.slice none 0 0,.slice none 0 0,.slice none 0 0] 62 (0,0)))∧Hd (AA (fun k=>w.heap.size≤k) wr 94 3 v1 (s.people.map Ds))∧Hd (AA (fun k=>w.heap.size≤k) wr 133 5 v3 (s.subs.map BC))∧Hd (Le w wr)) (fun _ j _=>ts.length - (intOf j).toNat)
 case atStart=>exact⟨0,ts,Nat.zero_le _,rfl,HEE,Aa rfl,HO3,Aa (fun i t hi=>by omega),Aa (fun i _=>rfl),HX,HY,HO1,HO2,HL⟩
 case round =>
  clear HX HY HO1 HO2 HO3 HL HSZ
  obtain⟨k,tl,hk,rfl,HTE,HTL,HOT,HDN,HRS,HX,HY,HOP,HOS,HL⟩:=hrel
  rcases Nat.lt_or_ge k ts.length with hlt | hge
  ·have hltI:(k:Int)<(ts.length:Int):=by omega
   have e:=List.getElem?_eq_getElem hlt
   have e2:=HRS.out k (Nat.le_refl _)
   rw[e] at e2
   have HRK:=HRR _ (List.mem_of_getElem? e)
   have hfew:ts[k].1.ssrcs.length≤3:=by
    have h1:ts[k].1∈s.tracks:=by rw[← H.out.eT];exact List.mem_map.2 ⟨_,List.mem_of_getElem? e,rfl⟩
    have h2:=(ok.tIn _ h1).2.1
    simp only[Ew,Bool.and_eq_true] at h2
    have h3:=AY.1 h2.1
    omega
   have HE:=Aa e
   have HE2:=Aa e2
   clear e e2
   generalize ts[k]=t at *
   obtain⟨g2,cap2,pre,post,hv2,hMg,hpre,hgt⟩:=HOT.out.cut (i:=k) (x:=trC t) (by rw[List.getElem?_map,HE2.out];rfl)
   rw[List.length_map,HTL.out] at hv2
   subst hv2
   obtain⟨At1,ct1,ht2,htc,htn,_⟩:=HRK.cells
   rw[List.length_map] at ht2
   have HT2:=Aa ht2
   have HLD:=Aa (HL.out.trans (Le.refl wr).drew)
   have HXD:=Aa ((Le.refl wr).drew.heap HX.out)
   have KC:=Aa (show wr.drew.cell? ⟨g2,k*4+3,none⟩=some (.slice At1 t.1.ssrcs.length ct1) by
    have h1:=Ae hgt (k*4+3)
    have h0:pre.length≤k*4+3:=by omega
    rw[List.getElem?_toArray,List.getElem?_append_right h0,hpre,Nat.add_sub_cancel_left] at h1
    have h2:(trC t++post)[3]?=some t.2:=rfl
    rw[h2,ht2] at h1
    exact h1)
   have CT:=Aa (AI htc HLD.out)
   have CN:=Aa (show At1=none→t.1.ssrcs.length=0∧ct1=0 from fun e=>by obtain⟨a,b⟩:=htn e;exact⟨by simpa using congrArg List.length a,b⟩)
   have HGT:=Aa hgt
   have HPR:=Aa hpre
   have HMG:=Aa hMg
   have hl16:ts.length≤16:=by have:=LT.out;omega
   have q1:IntKind.i64.wrap ((k:Int)+1)=((k+1:Nat):Int):=by rw[IntWalk.i64_in _ (by omega)];simp
   clear hgt hpre hMg ht2 htc htn HRK
   go_upto_region 10 with fail
   refine' Aj 12 12 30 Le (Is _::Is _::Is _::Is _::Is _::Is _::Is _::Is _::Is _::(fun v W=>AA (fun k=>w.heap.size≤k) W 110 1 v (t.1.ssrcs.map DI))::Is _::Is _::[]) ([]::[0]::[]::[]::[3]::[]::[4,5]::[6]::[7]::[8]::[1,2]::[10]::[]) (by kernel_rfl) (by kernel_rfl) (by rfl) (by kernel_rfl) (by kernel_rfl) Le.refl (fun _ _ _ h h'=>h.trans h') ⟨St.is,St.is,St.is,St.is,St.is,St.is,St.is,St.is,St.is,(fun _ _ _ h hk=>AA.le hk h),St.is,St.is,trivial⟩ ?m10
   case m10 =>
    simp (maxSteps:=100000000) only [AR,Bv,AK,AC,An,AD,Am,Au,List.set_cons_succ,List.set_cons_zero,List.getElem?_cons_zero,List.getElem?_cons_succ,List.take_succ_cons,List.take_zero,List.drop_succ_cons,List.drop_zero,List.cons_append,List.nil_append,List.length_cons,List.length_nil,Nat.reduceAdd]
    intro x0 x1 x2 x3 x4 x5 x6 x7 x8 x9 x10 x11
    refine⟨⟨?_,?_,?_,?_,?_,?_,?_,?_,?_,?_,?_,?_,trivial⟩,?_⟩
    ·intro wo hw KQ hK;go_simp;exact hK _ _ .r .m
    ·intro wo hw h0 KQ hK;cases h0;have kk:=Af (hw.heap HXD.out) 5 (.slice (some ⟨g2,0,none⟩) ts.length cap2) rfl wo (Le.refl _);go_simp;exact hK _ _ .r .m
    ·intro wo hw KQ hK;go_simp;exact hK _ _ .r .m
    ·intro wo hw KQ hK;go_simp;exact hK _ _ .r .m
    ·intro wo hw h3 KQ hK;cases h3;have kk:=Af (hw.heap HXD.out) 5 (.slice (some ⟨g2,0,none⟩) ts.length cap2) rfl wo (Le.refl _);go_simp;exact hK _ _ .r .m
    ·intro wo hw KQ hK;go_simp;exact hK _ _ .r .m
    ·intro wo hw h4 h5 KQ hK;cases h4;cases h5;go_simp;exact hK _ _ .r .m
    ·intro wo hw h6 KQ hK;cases h6;go_simp;exact hK _ _ .r .m
    ·intro wo hw h7 KQ hK;cases h7;have kk:=hw.cell KC.out;go_simp;exact hK _ _ .r .m
    ·intro wo hw h8 KQ hK;cases h8;go_simp;refine (C5 wo _ _ _ (t.1.ssrcs.map DI).flatten (AI CT.out hw) (by rw[AJ (s:=1) (by intro y hy;obtain⟨p,_,rfl⟩:=List.mem_map.1 hy;rfl),List.length_map]) CN.out (by omega) (Bf (one_u32 _))).mono ?_;rintro e w' ⟨v,rfl,ho,hl⟩;exact hK _ _ hl ((AA.of_base ho (by rw[List.length_map]) (by intro y hy;obtain⟨p,_,rfl⟩:=List.mem_map.1 hy;rfl)).mono fun k _ hk=>Nat.le_trans (Nat.le_trans HLD.out.size hw.size) hk)
    ·intro wo hw h1 h2 KQ hK;cases h1;cases h2;go_simp;exact hK _ _ .r .m
    ·intro wo hw h10 KQ hK;cases h10;go_simp;exact hK _ _ .r .m
    ·intro wz hz h0 h1 h2 h3 h4 h5 h6 h7 h8 h9 h10 h11;cases h0;cases h1;cases h2;cases h3;cases h4;cases h5;cases h6;cases h7;cases h8;obtain⟨HN1,HN2,HN3⟩:=h9;cases h10;cases h11;skip
     have HN:=Aa (show AA (fun k=>w.heap.size≤k) wz 110 1 x9 (t.1.ssrcs.map DI) from ⟨HN1,HN2,HN3⟩)
     have HGZ:=Aa (hz.heap ((Le.refl wr).drew.heap HGT.out))
     clear HN1 HN2 HN3
     go_wp2_with (refine Ao rfl 29 (.tmp 41) (.tmp 39) rfl (pre++[.int .i64 t.1.id,.int .i64 t.1.owner,.int .i64 t.1.from_]) (v:=x9) (old:=t.2) (post:=post) (by rw[List.length_append,HPR.out];rfl) rfl (by kernel_rfl) (AF HN.out) (by have:=HGZ.out;simpa[trC] using this) ?_;intro w5 h5 hg5;have H5:=Aa h5;have HG5:=Aa hg5;clear h5 hg5)
     have hlz:=(Le.refl wr).drew.trans hz
     have hkl:(tl.map trC)[k]?=some (trC t):=by rw[List.getElem?_map,HE2.out];rfl
     have hoz:=HOT.out.le hlz
     have hlen:(tl.map trC).length=ts.length:=by rw[List.length_map,HTL.out]
     have hput:AA (fun k=>w.heap.size≤k) w5 182 4 (.slice (some ⟨g2,0,none⟩) ts.length cap2) ((tl.map trC).set k (trC (t.1,x9))):=by
      have h6:=hoz
      rw[← hlen] at h6 ⊢
      exact h6.put hkl HPR.out HGZ.out rfl (by have:=H5.out;simpa[trC] using this)
     refine⟨⟨k+1,tl.set k (t.1,x9),hlt,rfl,Aa ?_,Aa (by rw[List.length_set];exact HTL.out),Aa (by rw[List.map_set];exact hput),Aa (fun i u hi hu=>?_),Aa (fun i hi=>?_),Aa ?_,Aa ?_,Aa ((HOP.out.le hlz).other HG5.out HGZ.out (by decide)),Aa ((HOS.out.le hlz).other HG5.out HGZ.out (by decide)),Aa ?_⟩,by simp only[intOf];omega⟩
     ·rw[List.map_set,HTE.out]
      have h7:s.tracks[k]?=some t.1:=by rw[← HTE.out,List.getElem?_map,HE2.out];rfl
      exact List.set_getElem?_self' h7
     ·rw[List.getElem?_set] at hu
      split at hu
      ·next e =>
       subst e
       split at hu
       ·injection hu with hu
        subst hu
        exact HN.out.other HG5.out HGZ.out (by decide)
       ·cases hu
      ·next e=>exact ((HDN.out i u (by omega) hu).le hlz).other HG5.out HGZ.out (by decide)
     ·rw[List.getElem?_set_ne (by omega)]
      exact HRS.out i (by omega)
     ·exact Ai HG5.out (hlz.heap HX.out) (by intro e;injection e with e;exact AS (hlz.heap HX.out) HGZ.out (by decide) e.symm)
     ·exact Ai HG5.out (hlz.heap HY.out) (by intro e;injection e with e;exact AS (hlz.heap HY.out) HGZ.out (by decide) e.symm)
     ·exact (HL.out.trans hlz).box1 HG5.out HMG.out
  ·have hgeI:¬ (k:Int)<(ts.length:Int):=by omega
   obtain rfl:k=ts.length:=by omega
   go_wp2_with (first | (refine Al rfl 62 (.tmp 3) rfl (cs:=[.int .i64 s.mp,.int .i64 s.mt,.int .i64 s.ms,.int .i64 s.ml,v1,v2,v3]) _ rfl Tryz.underlying62 rfl (by kernel_rfl) HX.out ?_) | (refine Ak rfl 62 (.tmp 2) (.tmp 43) rfl (cs:=[.int .i64 s.mp,.int .i64 s.mt,.int .i64 s.ms,.int .i64 s.ml,v1,v2,v3]) (old:=[.int .i64 0,.int .i64 0,.int .i64 0,.int .i64 0,.slice none 0 0,.slice none 0 0,.slice none 0 0]) rfl rfl (by kernel_rfl) (by intro u hu;simp only[List.mem_cons,List.not_mem_nil,or_false] at hu;rcases hu with rfl | rfl | rfl | rfl | rfl | rfl | rfl<;>first | rfl | exact AF HOP.out | exact AF HOT.out | exact AF HOS.out) HY.out rfl ?_;intro w6 h6 hg6;have H6:=Aa h6;have HG6:=Aa hg6;clear h6 hg6))
   refine ret_c Tryz.results20 (Bb.mk' rfl H6.out Tryz.underlying62 rfl (by kernel_rfl)) ?_
   rw[HR.out]
   refine⟨v1,v2,v3,tl,rfl,⟨HOP.out.other HG6.out HY.out (by decide),HOT.out.other HG6.out HY.out (by decide),HOS.out.other HG6.out HY.out (by decide),HTE.out,fun t ht=>?_⟩,HL.out.box1 HG6.out (by have:=HGX.out;omega)⟩
   obtain⟨i,hi,rfl⟩:=List.getElem_of_mem ht
   exact (HDN.out i _ (by rw[← HTL.out];exact hi) (List.getElem?_eq_getElem hi)).other HG6.out HY.out (by decide)
theorem ctState {g:Nat→Nat} {w:World} {c:Nat} {X:CtX} {C:Ct (Nat×Nat)} (h:Bg g w c X C) (ok:C.s.Ok) (fw:C.s.Few):Calls Tryz.prog 20 #[.pointer (some ⟨c,0,none⟩)] w (EQ w C.s):=by
 obtain⟨ts,hd⟩:=h.st
 exact stateB (show w.heap[c]?=some (.cells (ctC C.cf C.s ⟨X.ar,X.pn,X.bd,X.iq,X.sn,X.sm,X.tb,X.pv,X.tv,X.sv,X.wv⟩ C.ever).toArray 156 (0,0)) from h.hc) hd ok fw
section
variable {g:Nat→Nat} {w w':World} {c:Nat} {X:CtX} {C:Ct (Nat×Nat)}
theorem ctAcks (h:Bg g w c X C):Calls Tryz.prog 62 #[.pointer (some ⟨X.bd,0,none⟩)] w (Ax w (.int .i64 C.board.acks.length)):=by
 obtain⟨d,hd,hr⟩:=h.bd
 have:=bdAcks hd
 rw[hr.acks] at this
 exact this
theorem Gj.take {d:BdS} {b:Bd} (hr:Gj g w d b) {k:Nat} {q:QS} (hq:d.qs[k]?=some q):∃ l,b.q[k]?=some l∧b.q.getD k []=l∧TbsAt g w q.l l:=by
 have hk:=(List.getElem?_eq_some_iff.1 hq).1
 have hk2:k<b.q.length:=by rw[← hr.qs.len];exact hk
 have e:=List.getElem?_eq_getElem hk2
 exact⟨b.q[k],e,by rw[List.getD_eq_getElem?_getD,e];rfl,hr.qs.at_ k _ _ hq e⟩
theorem ctTake0 (h:Bg g w c X C) {k:Nat} (hk:k<C.board.q.length) (hn:(C.board.take k).2=none):Calls Tryz.prog 63 #[.pointer (some ⟨X.bd,0,none⟩),.int .i64 k] w fun e w'=>e=.returned (.tuple #[.pointer none,.bool false])∧Le w w':=by
 obtain⟨d,hd,hr⟩:=h.bd
 have hkd:k<d.qs.length:=by rw[hr.qs.len];exact hk
 obtain⟨l,e1,e2,ht⟩:=hr.take (List.getElem?_eq_getElem hkd)
 rw[Bd.take,e2] at hn
 cases l with
 | cons t l=>cases hn
 | nil=>exact (bdTake hd k (List.getElem?_eq_getElem hkd)).mono fun e w' hb=>hb.emp (ht.nil_iff.2 rfl)
theorem F2.set1 {α β:Type} {R R':α→β→Prop} {l:List α} {m:List β} (h:F2 R l m) {i:Nat} {x:α} {y:β} (hx:R' x y) (hi:∀ x y,R x y→R' x y):F2 R' (l.set i x) (m.set i y):=(h.imp fun x y _ _ h=>hi x y h).set hx
theorem ctTake1 (h:Bg g w c X C) {k:Nat} {t:Tb} (hn:(C.board.take k).2=some t):∃ t9,Calls Tryz.prog 63 #[.pointer (some ⟨X.bd,0,none⟩),.int .i64 k] w fun e w'=>e=.returned (.tuple #[.pointer (some ⟨t9,0,none⟩),.bool true])∧DY (tg g 8) w' t9 t∧Bj g w c X g w' X { C with board:=(C.board.take k).1 }:=by
 obtain⟨d,hd,hr⟩:=h.bd
 have hk:k<C.board.q.length:=by
  rcases Nat.lt_or_ge k C.board.q.length with hk | hk
  ·exact hk
  ·rw[Bd.take,List.getD_eq_getElem?_getD,List.getElem?_eq_none hk] at hn;cases hn
 have hkd:k<d.qs.length:=by rw[hr.qs.len];exact hk
 obtain⟨l,e1,e2,ht⟩:=hr.take (List.getElem?_eq_getElem hkd)
 cases l with
 | nil=>rw[Bd.take,e2] at hn;cases hn
 | cons t' l =>
  have et:t'=t:=by rw[Bd.take,e2] at hn;injection hn
  subst et
  have eb:(C.board.take k).1=⟨C.board.room,C.board.q.set k l,C.board.acks,C.board.last⟩:=by rw[Bd.take,e2]
  obtain⟨t9,l',eq,ht9,htl⟩:=ht.two
  refine⟨t9,(bdTake hd k (List.getElem?_eq_getElem hkd)).mono ?_⟩
  intro e w' hb
  obtain⟨rfl,hb2,hf⟩:=hb.one t9 l' eq
  have hs8:∀ j,tg g 4 j→g j≠8:=fun j hj=>by rw[hj];decide
  rw[eb]
  refine⟨rfl,ht9.mv hf hs8 (fun _ _=>rfl),h.setBoard hf (fun j hj=>hj) (fun _ _=>rfl) _ ⟨_,hb2,⟨hr.room,hr.acks,hr.lasts,?_⟩⟩⟩
  exact (hr.mv hf hs8 (fun _ _=>rfl)).qs.set1 (htl.imp fun a b _ _ hab=>hab.mv hf hs8 (fun _ _=>rfl)) (fun _ _ h=>h)
theorem F5 (h:Bg g w c X C) (k:Nat) (hk:k<C.pins.l.length) (e:Nat):Calls Tryz.prog 64 #[.pointer (some ⟨X.pn,0,none⟩),.int .i64 k,.int .u64 e] w fun en w'=>en=.returned (.int .i64 (C.pins.install k e).2)∧Fp (fun j=>g j=3) w w'∧Bj g w c X g w' X { C with pins:=(C.pins.install k e).1 }:=by
 obtain⟨Bl,wv,hp⟩:=h.pn
 refine (pnInstall hp k hk e).mono ?_
 rintro en w' ⟨rfl,hp',hf⟩
 exact⟨rfl,hf,h.setPins hf (fun k hk=>hk) (fun _ _=>rfl) _ ⟨Bl,wv,hp'⟩⟩
theorem ctAck (h:Bg g w c X C) {k:Nat} (hk:k<C.board.q.length) {ep:Nat} (hep:ep<18446744073709551616) (hr:C.board.acks.length<C.board.q.length*C.board.room):Calls Tryz.prog 65 #[.pointer (some ⟨X.bd,0,none⟩),.int .i64 k,.int .u64 ep] w fun e w'=>e=.returned (.int .i64 0)∧Bj g w c X g w' X { C with board:=C.board.ack k ep }:=by
 obtain⟨d,hd,hrel⟩:=h.bd
 refine (bdAck hd k ep (by rw[hrel.qs.len];exact hk) hep (by rw[hrel.acks,hrel.qs.len,hrel.room];exact hr)).mono ?_
 rintro e w' ⟨rfl,hd',hf⟩
 have eb:C.board.ack k ep=⟨C.board.room,C.board.q,C.board.acks++[(k,ep)],C.board.last⟩:=by rw[Bd.ack,if_pos hr]
 rw[eb]
 have hrel':=hrel.mv (g':=g) hf (fun j hj=>by rw[hj];decide) (fun _ _=>rfl)
 exact⟨rfl,h.setBoard hf (fun j hj=>hj) (fun _ _=>rfl) _ ⟨_,hd',⟨hrel'.room,by show d.acks++_=_;rw[hrel.acks],hrel'.lasts,hrel'.qs⟩⟩⟩
theorem DY.fp6 {t:Nat} {tb:Tb} (h:DY (tg g 8) w t tb) (hf:Fp (fun j=>g j=3) w w'):DY (tg g 8) w' t tb:=h.mv hf (fun j hj=>by rw[hj];decide) (fun _ _=>rfl)
theorem ctObey (h:Bg g w c X C) (k:Nat) (hk:k<C.board.q.length) (hp:C.pins.l.length=C.board.q.length) (hep:∀ t,(C.board.take k).2=some t→t.epoch<18446744073709551616) {na:Nat} (hna:na=C.board.q.length*C.board.room) :
  Calls Tryz.prog 18 #[.agg #[.pointer (some ⟨c,0,none⟩),.pointer (some ⟨X.ar,0,none⟩),.pointer (some ⟨X.pn,0,none⟩),.pointer (some ⟨X.bd,0,none⟩),.int .i64 na],.int .i64 k] w fun e w'=>e=.returned (.bool (C.obey k).2)∧∃ g',Bj g w c X g' w' X (C.obey k).1:=by
 obtain⟨R,hR⟩:∃ R:Ending→World→Prop,R=fun e w'=>e=.returned (.bool (C.obey k).2)∧∃ g',Bj g w c X g' w' X (C.obey k).1:=⟨_,rfl⟩
 rw[← hR]
 have HR:=Aa hR
 have HX0:=Aa (heap_alloc_new w (.cells #[.pointer (some ⟨c,0,none⟩),.pointer (some ⟨X.ar,0,none⟩),.pointer (some ⟨X.pn,0,none⟩),.pointer (some ⟨X.bd,0,none⟩),.int .i64 na] 46))
 have HT0:=Aa (h.re 0 ((Le.refl w).alloc (.cells #[.pointer (some ⟨c,0,none⟩),.pointer (some ⟨X.ar,0,none⟩),.pointer (some ⟨X.pn,0,none⟩),.pointer (some ⟨X.bd,0,none⟩),.int .i64 na] 46)))
 have HG0:=Aa (show Bn g w.heap.size 0 w.heap.size=0 from AM (Nat.le_refl _))
 have HNA:=Aa hna
 clear hR h hna
 go_enter Tryz.func18,Tryz.ntmps18
 go_upto_region 1 with fail
 generalize World.alloc w _=w1 at *
 generalize Bn g w.heap.size 0=G6 at *
 generalize w.heap.size=xb at *
 have HX1:=Aa ((Le.refl w1).drew.heap HX0.out)
 have HLD:=Aa (Le.refl w1).drew
 have HAK:=Aa (fun W (hl:Le w1 W)=>ctAcks (HT0.out.at_.le hl))
 refine' Bi 6 7 Le (Is _::Is _::Is _::Is _::Is _::Is _::[]) ([]::[0]::[1]::[]::[3]::[2,4]::[]) (by kernel_rfl) (by kernel_rfl) (by rfl) (by kernel_rfl) Le.refl (fun _ _ _ h h'=>h.trans h') ⟨St.is,St.is,St.is,St.is,St.is,St.is,trivial⟩ ?m1
 case m1 =>
  simp (maxSteps:=100000000) only [AR,Bv,AK,AC,An,AD,Am,Au,List.set_cons_succ,List.set_cons_zero,List.getElem?_cons_zero,List.getElem?_cons_succ,List.take_succ_cons,List.take_zero,List.drop_succ_cons,List.drop_zero,List.cons_append,List.nil_append,List.length_cons,List.length_nil,Nat.reduceAdd]
  intro x0 x1 x2 x3 x4 x5
  refine⟨⟨?_,?_,?_,?_,?_,?_,trivial⟩,?_⟩
  ·intro wo hw KQ hK;go_simp;exact hK _ _ .r .m
  ·intro wo hw h0 KQ hK;cases h0;have kk:=Af (hw.heap HX1.out) 3 (.pointer (some ⟨X.bd,0,none⟩)) rfl wo (Le.refl _);go_simp;exact hK _ _ .r .m
  ·intro wo hw h1 KQ hK;cases h1;go_simp;refine (HAK.out wo (HLD.out.trans hw)).mono ?_;rintro e w' ⟨rfl,hb⟩;exact hK _ _ (Le.mk hb) (Is.mk _ _)
  ·intro wo hw KQ hK;go_simp;exact hK _ _ .r .m
  ·intro wo hw h3 KQ hK;cases h3;have kk:=Af (hw.heap HX1.out) 4 (.int .i64 na) rfl wo (Le.refl _);go_simp;exact hK _ _ .r .m
  ·intro wo hw h2 h4 KQ hK;cases h2;cases h4;go_simp;exact hK _ _ .r .m
  ·intro wz hz h0 h1 h2 h3 h4 h5;cases h0;cases h1;cases h2;cases h3;cases h4;cases h5;skip
   have hle:=(Le.refl w1).drew.trans hz
   have HT2:=Aa (HT0.out.le hle)
   have HX2:=Aa (hle.heap HX0.out)
   clear hle hz HX0 HT0 HX1 HLD HAK
   generalize wz=w2 at *
   by_cases hfull:C.board.q.length*C.board.room≤C.board.acks.length
   ·have hI:(na:Int)≤(C.board.acks.length:Int):=by have:=HNA.out;omega
    have HF:=Aa hfull
    clear hfull
    go_wp2_with fail
    rw[HR.out,Ct.obey,if_pos HF.out]
    exact⟨rfl,_,HT2.out⟩
   ·have hI:¬ (na:Int)≤(C.board.acks.length:Int):=by have:=HNA.out;omega
    have HF:=Aa hfull
    clear hfull
    have k3:=Af HX2.out 3 (.pointer (some ⟨X.bd,0,none⟩)) rfl w2 (Le.refl _)
    cases ht:(C.board.take k).2 with
    | none =>
     have HO:=Aa (show C.obey k=(C,false) by rw[Ct.obey,if_neg HF.out,ht])
     go_wp2_with fail
     refine (ctTake0 HT2.out.at_ hk ht).mono ?_
     rintro e w3 ⟨rfl,hl⟩
     have HL3:=Aa hl
     clear hl
     go_wp2_with fail
     rw[HR.out,HO.out]
     exact⟨rfl,_,HT2.out.le HL3.out⟩
    | some t =>
     obtain⟨t9,hcall⟩:=ctTake1 HT2.out.at_ ht
     have HC:=Aa hcall
     have HEP9:=Aa (hep t ht)
     have HOB:=Aa (show C.obey k=if (C.pins.install k t.epoch).2≠0 then ({ C with board:=(C.board.take k).1,pins:=(C.pins.install k t.epoch).1 },false) else ({ C with board:=(C.board.take k).1.ack k t.epoch,pins:=(C.pins.install k t.epoch).1 },true) by rw[Ct.obey,if_neg HF.out,ht])
     have hql:(C.board.take k).1.q.length=C.board.q.length∧(C.board.take k).1.acks=C.board.acks∧(C.board.take k).1.room=C.board.room:=by
      unfold Bd.take
      split
      ·exact⟨rfl,rfl,rfl⟩
      ·exact⟨List.length_set ..,rfl,rfl⟩
     have HQL:=Aa hql
     clear hcall ht hql
     go_wp2_with fail
     refine HC.out.mono ?_
     rintro e w6 ⟨rfl,htb,hc6⟩
     have HTB:=Aa htb
     have HT6:=Aa (Bj.same hc6.at_ (Le.refl w6))
     have HT26:=Aa (HT2.out.trans hc6)
     have HX6a:=Aa (hc6.fp.heap HX2.out (fun e=>e HG0.out))
     clear htb hc6 HT2 HX2 k3
     obtain⟨C1,hC1⟩:∃ D,D=({ C with board:=(C.board.take k).1 }:Ct (Nat×Nat)):=⟨_,rfl⟩
     rw[← hC1] at HT6 HT26
     have HKP:=Aa (show k<C1.pins.l.length by rw[hC1];show k<C.pins.l.length;omega)
     have HCP:=Aa (show C1.pins=C.pins by rw[hC1])
     have HC1:=Aa hC1
     clear hC1
     have HG6:=HG0
     go_upto_region 6 with fail
     have HX6:=Aa ((Le.refl w6).drew.heap HX6a.out)
     have kx:(0:Nat)=0:=rfl
     clear kx
     by_cases hin:(C1.pins.install k t.epoch).2=0
     ·have HER:=Aa hin
      clear hin
      refine' AB 5 13 13 22 Le (Fp (fun j=>G6 j=3)) (IsD _::IsD _::IsD _::IsD _::IsD _::(fun _ v W=>v=.int .i64 0∧Bj G6 w6 c X G6 W X { C1 with pins:=(C1.pins.install k t.epoch).1 })::IsD _::IsD _::IsD _::IsD _::IsD _::IsD _::IsD _::[]) ([]::[0]::[]::[]::[3]::[1,2,4]::[5]::[6]::[7]::[7,8]::[7]::[7]::[7,11]::[]) (by kernel_rfl) (by kernel_rfl) (by rfl) (by kernel_rfl) (by kernel_rfl) Le.refl (fun _ _ _ h h'=>h.trans h') (fun _ _ _ h h'=>h.trans h') (fun _ _ h=>Fp.of_le h) ⟨StQ.is,StQ.is,StQ.is,StQ.is,StQ.is,(fun _ _ _ _ hb h=>⟨h.1,h.2.le hb⟩),StQ.is,StQ.is,StQ.is,StQ.is,StQ.is,StQ.is,StQ.is,trivial⟩ ?m6
      case m6 =>
       simp (maxSteps:=100000000) only [AR,DU,Nat.reduceBEq,cond_true,cond_false,AU,AH,AE,B6,AD,Am,Au,List.set_cons_succ,List.set_cons_zero,List.map_cons,List.getElem?_cons_zero,List.getElem?_cons_succ,Option.getD_some,List.map_nil,List.take_succ_cons,List.take_zero,List.drop_succ_cons,List.drop_zero,List.cons_append,List.nil_append,List.length_cons,List.length_nil,Nat.reduceAdd]
       intro x0 x1 x2 x3 x4 x5 x6 x7 x8 x9 x10 x11 x12
       refine⟨⟨?_,?_,?_,?_,?_,?_,?_,?_,?_,?_,?_,?_,?_,trivial⟩,?_⟩
       ·intro wo hw KQ hK;go_simp;exact hK _ _ .r .m
       ·intro wo hw h0 KQ hK;cases h0;have kk:=Af (hw.heap HX6.out (by intro e;have e:G6 xb=3:=e;rw[HG6.out] at e;cases e)) 2 (.pointer (some ⟨X.pn,0,none⟩)) rfl wo (Le.refl _);go_simp;exact hK _ _ .r .m
       ·intro wo hw KQ hK;go_simp;exact hK _ _ .r .m
       ·intro wo hw KQ hK;go_simp;exact hK _ _ .r .m
       ·intro wo hw h3 KQ hK;cases h3;go_simp;refine (CX (o:=some t9) (t:=some t) (HTB.out.fp6 ((Fp.of_le (Le.refl w6).drew).trans hw))).mono ?_;rintro e w' ⟨rfl,hb⟩;exact hK _ _ (Le.mk hb) (IsD.mk _ _ _)
       ·intro wo hw h1 h2 h4 KQ hK;cases h1;cases h2;cases h4;go_simp;refine (F5 (HT6.out.at_.le ((Le.refl w6).drew.trans hw)) k HKP.out t.epoch).mono ?_;rintro e w' ⟨rfl,hf,hc⟩;exact hK _ _ hf ⟨by rw[HER.out],Bj.pre ((Le.refl w6).drew.trans hw) hc⟩
       ·intro wo hw h5 KQ hK;obtain⟨rfl,HIN⟩:=h5;go_simp;exact hK _ _ .r .m
       ·intro wo hw h6 KQ hK;cases h6;go_simp;exact hK _ _ .r .m
       ·intro wo hw h7 KQ hK;cases h7;go_simp;exact hK _ _ .r .m
       ·intro wo hw h7 h8 KQ hK;cases h7;cases h8;have kk:=Af (hw.heap HX6.out (by intro e;have e:G6 xb=3:=e;rw[HG6.out] at e;cases e)) 3 (.pointer (some ⟨X.bd,0,none⟩)) rfl wo (Le.refl _);go_simp;exact hK _ _ .r .m
       ·intro wo hw h7 KQ hK;cases h7;go_simp;exact hK _ _ .r .m
       ·intro wo hw h7 KQ hK;cases h7;go_simp;exact hK _ _ .r .m
       ·intro wo hw h7 h11 KQ hK;cases h7;cases h11;go_simp;refine (CX (o:=some t9) (t:=some t) (HTB.out.fp6 ((Fp.of_le (Le.refl w6).drew).trans hw))).mono ?_;rintro e w' ⟨rfl,hb⟩;exact hK _ _ (Le.mk hb) (IsD.mk _ _ _)
       ·intro wz hz h0 h1 h2 h3 h4 h5 h6 h7 h8 h9 h10 h11 h12;cases h0;cases h1;cases h2;cases h3;cases h4;obtain⟨rfl,HIN⟩:=h5;cases h6;cases h7;cases h8;cases h9;cases h10;cases h11;cases h12;skip
        have HIN8:=Aa HIN
        clear HIN hz
        go_wp2_with fail
        refine (ctAck HIN8.out.at_ (show k<C1.board.q.length by rw[HC1.out];show k<(C.board.take k).1.q.length;rw[HQL.out.1];exact hk) HEP9.out (by rw[HC1.out];show (C.board.take k).1.acks.length<(C.board.take k).1.q.length*(C.board.take k).1.room;rw[HQL.out.1,HQL.out.2.1,HQL.out.2.2];have:=HF.out;omega)).mono ?_
        rintro e w9 ⟨rfl,hc9⟩
        have HT9:=Aa (HT26.out.trans (HIN8.out.trans hc9))
        clear hc9
        go_wp2_with fail
        have hin9:=HER.out
        rw[HCP.out] at hin9
        rw[HR.out,HOB.out,if_neg (fun e=>e hin9)]
        refine⟨rfl,G6,?_⟩
        have h9:=HT9.out
        rw[HC1.out] at h9
        exact h9
     ·obtain⟨er,her⟩:∃ e,e=(C1.pins.install k t.epoch).2:=⟨_,rfl⟩
      have hne:¬ er=0:=by rw[her];exact hin
      have hnb:(er==0)=false:=by rw[beq_eq_false_iff_ne];exact hne
      have HNE:=Aa hin
      have HER:=Aa her.symm
      clear her hin
      refine' AB 5 13 13 22 Le (Fp (fun j=>G6 j=3)) (IsD _::IsD _::IsD _::IsD _::IsD _::(fun _ v W=>v=.int .i64 er∧Bj G6 w6 c X G6 W X { C1 with pins:=(C1.pins.install k t.epoch).1 })::IsD _::IsD _::IsD _::IsD _::IsD _::IsD _::IsD _::[]) ([]::[0]::[]::[]::[3]::[1,2,4]::[5]::[6]::[7]::[7,8]::[7]::[7]::[7,11]::[]) (by kernel_rfl) (by kernel_rfl) (by rfl) (by kernel_rfl) (by kernel_rfl) Le.refl (fun _ _ _ h h'=>h.trans h') (fun _ _ _ h h'=>h.trans h') (fun _ _ h=>Fp.of_le h) ⟨StQ.is,StQ.is,StQ.is,StQ.is,StQ.is,(fun _ _ _ _ hb h=>⟨h.1,h.2.le hb⟩),StQ.is,StQ.is,StQ.is,StQ.is,StQ.is,StQ.is,StQ.is,trivial⟩ ?m6
      case m6 =>
       simp (maxSteps:=100000000) only [AR,DU,Nat.reduceBEq,cond_true,cond_false,AU,AH,AE,B6,AD,Am,Au,List.set_cons_succ,List.set_cons_zero,List.map_cons,List.getElem?_cons_zero,List.getElem?_cons_succ,Option.getD_some,List.map_nil,List.take_succ_cons,List.take_zero,List.drop_succ_cons,List.drop_zero,List.cons_append,List.nil_append,List.length_cons,List.length_nil,Nat.reduceAdd]
       intro x0 x1 x2 x3 x4 x5 x6 x7 x8 x9 x10 x11 x12
       refine⟨⟨?_,?_,?_,?_,?_,?_,?_,?_,?_,?_,?_,?_,?_,trivial⟩,?_⟩
       ·intro wo hw KQ hK;go_simp;exact hK _ _ .r .m
       ·intro wo hw h0 KQ hK;cases h0;have kk:=Af (hw.heap HX6.out (by intro e;have e:G6 xb=3:=e;rw[HG6.out] at e;cases e)) 2 (.pointer (some ⟨X.pn,0,none⟩)) rfl wo (Le.refl _);go_simp;exact hK _ _ .r .m
       ·intro wo hw KQ hK;go_simp;exact hK _ _ .r .m
       ·intro wo hw KQ hK;go_simp;exact hK _ _ .r .m
       ·intro wo hw h3 KQ hK;cases h3;go_simp;refine (CX (o:=some t9) (t:=some t) (HTB.out.fp6 ((Fp.of_le (Le.refl w6).drew).trans hw))).mono ?_;rintro e w' ⟨rfl,hb⟩;exact hK _ _ (Le.mk hb) (IsD.mk _ _ _)
       ·intro wo hw h1 h2 h4 KQ hK;cases h1;cases h2;cases h4;go_simp;refine (F5 (HT6.out.at_.le ((Le.refl w6).drew.trans hw)) k HKP.out t.epoch).mono ?_;rintro e w' ⟨rfl,hf,hc⟩;exact hK _ _ hf ⟨by rw[HER.out],Bj.pre ((Le.refl w6).drew.trans hw) hc⟩
       ·intro wo hw h5 KQ hK;obtain⟨rfl,HIN⟩:=h5;go_simp;exact hK _ _ .r .m
       ·intro wo hw h6 KQ hK;cases h6;go_simp;exact hK _ _ .r .m
       ·intro wo hw h7 KQ hK;cases h7;go_simp;exact hK _ _ .r .m
       ·intro wo hw h7 h8 KQ hK;cases h7;cases h8;go_simp;exact hK _ _ .r .m
       ·intro wo hw h7 KQ hK;cases h7;go_simp;exact hK _ _ .r .m
       ·intro wo hw h7 KQ hK;cases h7;go_simp;exact hK _ _ .r .m
       ·intro wo hw h7 h11 KQ hK;cases h7;cases h11;go_simp;exact hK _ _ .r .m
       ·intro wz hz h0 h1 h2 h3 h4 h5 h6 h7 h8 h9 h10 h11 h12;cases h0;cases h1;cases h2;cases h3;cases h4;obtain⟨rfl,HIN⟩:=h5;cases h6;cases h7;cases h8;cases h9;cases h10;cases h11;cases h12;skip
        have HIN8:=Aa HIN
        clear HIN hz
        go_wp2_with fail
        have hin9:=HNE.out
        rw[HCP.out] at hin9
        rw[HR.out,HOB.out,if_pos hin9]
        refine⟨rfl,G6,?_⟩
        have h9:=HT26.out.trans HIN8.out
        rw[HC1.out] at h9
        exact h9
end
def BdNw (n1:Nat) (w:World) (b n R:Nat):Prop:=∃ d,Bu (fun k=>n1≤k) w b d∧d.R=R∧d.qs.length=n∧(∀ q∈d.qs,q.l=[])∧d.acks=[]∧d.lasts=List.replicate n 0
theorem BdNw.le {n1 b n R:Nat} {w w':World} (h:BdNw n1 w b n R) (hl:Le w w'):BdNw n1 w' b n R:=by
 obtain⟨d,hd,r⟩:=h
 exact⟨d,hd.fp (S:=fun _=>False) (Fp.of_le hl) (fun _ h=>h.elim),r⟩
def gTy (n:Nat) (w:World) (k:Nat):Nat :=
 if k<n then 0 else match w.heap[k]? with
 | some (.cells _ T _)=>if T∈[190,251] then 2 else if T∈[205,313,320] then 3 else if T∈[274,275,359,64,356,271,28] then 4 else 0
 | _=>0
theorem Ca {n k:Nat} {w:World} {cs:Array Value} {T:Nat} {fr:Nat×Nat} (h:w.heap[k]?=some (.cells cs T fr)) (hn:n≤k):gTy n w k=if T∈[190,251] then 2 else if T∈[205,313,320] then 3 else if T∈[274,275,359,64,356,271,28] then 4 else 0:=by
 rw[gTy,if_neg (by omega),h]
theorem AA.typ {M:Nat→Prop} {w:World} {T s:Nat} {v:Value} {xs:List (List Value)} (h:AA M w T s v xs):AA (fun k=>M k∧∃ cs,w.heap[k]?=some (.cells cs T (0,0))) w T s v xs:=⟨h.own,fun k hk=>⟨h.blk k hk,h.blkT hk⟩,h.len⟩
theorem Gi.ty {n p:Nat} {w:World} {pn:Pn} (h:Gi (fun k=>n≤k) w p pn):Gi (tg (gTy n w) 3) w p pn:=by
 obtain⟨Bl,wv,h⟩:=h
 obtain⟨cur,hB,r⟩:=h.hB
 refine⟨Bl,wv,h.hp,⟨cur,hB,r⟩,h.hW.typ.mono fun k _ hk=>?_,?_,?_,h.n4,h.m64⟩
 ·obtain⟨h1,cs,h2⟩:=hk
  show gTy n w k=3
  rw[Ca h2 h1];decide
 ·show gTy n w p=3
  rw[Ca h.hp h.Mp];decide
 ·show gTy n w Bl=3
  rw[Ca hB h.MB];decide
theorem BdNw.ty {n1 b n R:Nat} {w:World} (h:BdNw n1 w b n R):DH (gTy n1 w) w b ⟨R,List.replicate n [],[],List.replicate n 0⟩:=by
 obtain⟨d,h,e1,e2,e3,e4,e5⟩:=h
 obtain⟨curK,hKA,_⟩:=h.hK.hA
 refine⟨d,⟨h.hb,h.hT.typ.mono fun k _ hk=>?_,h.hQ,h.hK,h.hL.typ.mono fun k _ hk=>?_,?_,fun q hq=>?_,?_,h.dQ,h.dA,h.n1,h.n4,h.R1,h.R2,h.lens,h.lt,h.lta⟩,⟨e1,e4,e5,?_⟩⟩
 ·obtain⟨h1,cs,h2⟩:=hk
  show gTy n1 w k=4
  rw[Ca h2 h1];decide
 ·obtain⟨h1,cs,h2⟩:=hk
  show gTy n1 w k=4
  rw[Ca h2 h1];decide
 ·show gTy n1 w b=4
  rw[Ca h.hb h.Mb];decide
 ·obtain⟨cur,hA,_⟩:=(h.hQ q hq).hA
  refine⟨?_,?_⟩
  ·show gTy n1 w q.Q=4
   rw[Ca (h.hQ q hq).hQ (h.Mq q hq).1];decide
  ·show gTy n1 w q.A=4
   rw[Ca hA (h.Mq q hq).2];decide
 ·refine⟨?_,?_⟩
  ·show gTy n1 w d.aq=4
   rw[Ca h.hK.hQ h.Ma.1];decide
  ·show gTy n1 w d.aA=4
   rw[Ca hKA h.Ma.2];decide
 ·refine⟨by rw[e2,List.length_replicate],fun i q l hq hl=>?_⟩
  rw[e3 q (List.mem_of_getElem? hq)]
  rw[List.getElem?_replicate] at hl
  split at hl
  ·injection hl with hl
   subst hl
   exact F2.nil
  ·cases hl
theorem CM.ty {n1 a aB n:Nat} {w:World} (h:D0 w a aB (List.replicate n ASl.zero)) (h1:n1≤a) (h2:n1≤aB):CM (gTy n1 w) w a (List.replicate n ASl.zero):=by
 obtain⟨cur,hB,_⟩:=h.hB
 refine⟨aB,by rw[List.map_replicate];exact h,?_,?_⟩
 ·rw[Ca h.ha h1];decide
 ·rw[Ca hB h2];decide
def ct0 (cf:Cf) (mp mt ms ml slots cmds:Nat):Ct (Nat×Nat):=⟨cf,List.replicate slots ASl.zero,⟨List.replicate cf.shards Wk.zero,[]⟩,⟨cmds,List.replicate cf.shards [],[],List.replicate cf.shards 0⟩,[],⟨cf.window,[]⟩,DS.new mp mt ms ml,none,0,[],[]⟩
def scV (c:Nat) (X:CtX) (na:Nat):Value:=.agg #[.pointer (some ⟨c,0,none⟩),.pointer (some ⟨X.ar,0,none⟩),.pointer (some ⟨X.pn,0,none⟩),.pointer (some ⟨X.bd,0,none⟩),.int .i64 na]
def ScnP (w:World) (C:Ct (Nat×Nat)) (na:Nat) (e:Ending) (w':World):Prop :=
 ∃ c g X,e=.returned (scV c X na)∧Bg g w' c X C∧Le w w'∧∀ k,k<w.heap.size→g k=0
theorem FP (w:World) (cf:Cf) (mp mt ms ml slots cmds:Nat) (hsl:1≤slots∧slots≤64) (hcm:1≤cmds∧cmds≤900) (hs:1≤cf.shards∧cf.shards≤4) (hi:1≤cf.intake∧cf.intake≤4096) (hwn:1≤cf.window∧cf.window≤4096) (hk:1≤cf.keep∧cf.keep≤4096) (h1:1≤mp∧mp≤16) (h2:1≤mt∧mt≤16) (h3:1≤ms∧ms≤16) (h4:1≤ml∧ml≤64) {na:Nat} (hna:na=cf.shards*cmds) :
  Calls Tryz.prog 14 #[.agg #[.int .i64 cf.shards,.int .i64 cf.intake,.int .i64 cf.window,.int .i64 cf.keep,.int .i64 mp,.int .i64 mt,.int .i64 ms,.int .i64 ml],.int .i64 slots,.int .i64 cmds] w (ScnP w (ct0 cf mp mt ms ml slots cmds) na):=by
 have HNW:=Aa (fun (g:Nat→Nat) (W:World) (a p b:Nat) (ha:CM g W a (List.replicate slots ASl.zero)) (hp:Fx g W p ⟨List.replicate cf.shards Wk.zero,[]⟩) (hb:DH g W b ⟨cmds,List.replicate cf.shards [],[],List.replicate cf.shards 0⟩)=>ctNew cf mp mt ms ml ha (fun s h=>by rw[List.eq_of_mem_replicate h];rfl) hp hb hs hi hwn hk h1 h2 h3 h4)
 have hb1:cf.shards*cmds≤3600:=Nat.mul_le_mul hs.2 hcm.2
 have HMU:=Aa (show IntKind.i64.wrap ((cf.shards:Int)*(cmds:Int))=(na:Int) from by
  have e:(cf.shards:Int)*(cmds:Int)=(na:Int):=by rw[hna];simp
  rw[e,IntWalk.i64_in _ (by omega)])
 have HX0:=Aa (heap_alloc (o':=.cells #[.pointer none,.pointer none,.pointer none,.pointer none,.int .i64 0] 46) (heap_alloc_new w (.cells #[.int .i64 cf.shards,.int .i64 cf.intake,.int .i64 cf.window,.int .i64 cf.keep,.int .i64 mp,.int .i64 mt,.int .i64 ms,.int .i64 ml] 38)))
 have hz1:(w.alloc (.cells #[.int .i64 cf.shards,.int .i64 cf.intake,.int .i64 cf.window,.int .i64 cf.keep,.int .i64 mp,.int .i64 mt,.int .i64 ms,.int .i64 ml] 38)).heap.size=w.heap.size+1:=by show (w.heap.push _).size=_;rw[Array.size_push]
 have HY0:=Aa (heap_alloc_new (w.alloc (.cells #[.int .i64 cf.shards,.int .i64 cf.intake,.int .i64 cf.window,.int .i64 cf.keep,.int .i64 mp,.int .i64 mt,.int .i64 ms,.int .i64 ml] 38)) (.cells #[.pointer none,.pointer none,.pointer none,.pointer none,.int .i64 0] 46))
 rw[hz1] at HY0
 have HL0:=Aa (((Le.refl w).alloc (.cells #[.int .i64 cf.shards,.int .i64 cf.intake,.int .i64 cf.window,.int .i64 cf.keep,.int .i64 mp,.int .i64 mt,.int .i64 ms,.int .i64 ml] 38)).alloc (.cells #[.pointer none,.pointer none,.pointer none,.pointer none,.int .i64 0] 46))
 obtain⟨R,hR⟩:∃ R,R=ScnP w (ct0 cf mp mt ms ml slots cmds) na:=⟨_,rfl⟩
 rw[← hR]
 have HR:=Aa hR
 clear hR hna hb1 hz1 hi hwn hk h1 h2 h3 h4
 go_enter Tryz.func14,Tryz.ntmps14
 go_upto_region 1 with fail
 generalize (w.alloc (.cells #[.int .i64 cf.shards,.int .i64 cf.intake,.int .i64 cf.window,.int .i64 cf.keep,.int .i64 mp,.int .i64 mt,.int .i64 ms,.int .i64 ml] 38)).alloc (.cells #[.pointer none,.pointer none,.pointer none,.pointer none,.int .i64 0] 46)=w1 at *
 generalize hxy:w.heap.size+1=xy at *
 generalize hx3:w.heap.size=x3 at *
 have HX3:=Aa (And.intro hx3 hxy)
 clear hx3 hxy
 have HX1d:=Aa ((Le.refl w1).drew.heap HX0.out)
 obtain⟨n1,hn1⟩:∃ n,n=w1.heap.size:=⟨_,rfl⟩
 have HN1:=Aa (show n1≤w1.drew.heap.size from by rw[hn1];exact Nat.le_refl _)
 have HNX:=Aa (show xy<n1 from by rw[hn1];exact Ah HY0.out)
 clear hn1
 refine' AW 15 14 8 Le (IsD _::(fun _ v W=>∃ a aB,v=.pointer (some ⟨a,0,none⟩)∧D0 W a aB (List.replicate slots ASl.zero)∧n1≤a∧n1≤aB)::IsD _::IsD _::(fun _ v W=>∃ p,v=.pointer (some ⟨p,0,none⟩)∧Gi (fun k=>n1≤k) W p ⟨List.replicate cf.shards Wk.zero,[]⟩)::IsD _::IsD _::IsD _::(fun _ v W=>∃ b,v=.pointer (some ⟨b,0,none⟩)∧BdNw n1 W b cf.shards cmds)::IsD _::IsD _::IsD _::IsD (.int .i64 na)::(fun us v _=>v=.agg #[.pointer none,((us[0]?).getD undef),((us[1]?).getD undef),((us[2]?).getD undef),((us[3]?).getD undef)])::(fun _ v W=>∃ xs,v=.pointer (some ⟨xs,0,none⟩)∧n1≤xs∧W.heap[xs]?=some (.cells #[.pointer none,.pointer none,.pointer none,.pointer none,.int .i64 0] 46 (0,0)))::[]) ([]::[0]::[]::[2]::[3]::[]::[5]::[]::[6,7]::[]::[9]::[]::[10,11]::[1,4,8,12]::[]::[]) (by kernel_rfl) (by kernel_rfl) (by rfl) (by kernel_rfl) (by kernel_rfl) Le.refl (fun _ _ _ h h'=>h.trans h') ⟨StD.is,(fun _ _ _ _ hb h=>Exists.elim h fun a h=>Exists.elim h fun b h=>⟨a,b,h.1,h.2.1.le hb,h.2.2⟩),StD.is,StD.is,(fun _ _ _ _ hb h=>Exists.elim h fun p h=>⟨p,h.1,h.2.le hb⟩),StD.is,StD.is,StD.is,(fun _ _ _ _ hb h=>Exists.elim h fun b h=>⟨b,h.1,h.2.le hb⟩),StD.is,StD.is,StD.is,StD.is,(fun _ _ _ _ _ h=>h),(fun _ _ _ _ hb h=>Exists.elim h fun g h=>⟨g,h.1,h.2.1,hb.heap h.2.2⟩),trivial⟩ ?m1
 case m1 =>
  simp (maxSteps:=100000000) only [AR,Hr,AU,AH,AE,B6,AD,Am,Au,Act.put,List.setIfInBounds_toArray,List.set_cons_succ,List.set_cons_zero,List.map_cons,List.getElem?_cons_zero,List.getElem?_cons_succ,Option.getD_some,List.map_nil,List.take_succ_cons,List.take_zero,List.drop_succ_cons,List.drop_zero,List.cons_append,List.nil_append,List.length_cons,List.length_nil,Nat.reduceAdd]
  intro x0 x1 x2 x3 x4 x5 x6 x7 x8 x9 x10 x11 x12 x13 x14
  refine⟨⟨?_,?_,?_,?_,?_,?_,?_,?_,?_,?_,?_,?_,?_,?_,?_,trivial⟩,?_⟩
  ·intro wo hw KQ hK;go_simp;exact hK _ _ .r .m
  ·intro wo hw h0 KQ hK;cases h0;go_simp;refine (arNew_any wo slots hsl.1 hsl.2).mono ?_;rintro e w' ⟨a,B,rfl,ha,hl,h1,h2,_,_⟩;exact hK _ _ hl ⟨a,B,rfl,ha,Nat.le_trans (Nat.le_trans HN1.out hw.size) h1,Nat.le_trans (Nat.le_trans HN1.out hw.size) h2⟩
  ·intro wo hw KQ hK;go_simp;exact hK _ _ .r .m
  ·intro wo hw h2 KQ hK;cases h2;have kk:=Af (hw.heap HX1d.out) 0 (.int .i64 cf.shards) rfl wo (Le.refl _);go_simp;exact hK _ _ .r .m
  ·intro wo hw h3 KQ hK;cases h3;go_simp;refine (pnNew_any wo cf.shards hs.1 hs.2).mono ?_;rintro e w' ⟨p,rfl,hp,hl⟩;exact hK _ _ hl ⟨p,rfl,hp.mono fun k _ hk=>Nat.le_trans (Nat.le_trans HN1.out hw.size) hk⟩
  ·intro wo hw KQ hK;go_simp;exact hK _ _ .r .m
  ·intro wo hw h5 KQ hK;cases h5;have kk:=Af (hw.heap HX1d.out) 0 (.int .i64 cf.shards) rfl wo (Le.refl _);go_simp;exact hK _ _ .r .m
  ·intro wo hw KQ hK;go_simp;exact hK _ _ .r .m
  ·intro wo hw h6 h7 KQ hK;cases h6;cases h7;go_simp;refine (bdNew wo cf.shards cmds hs.1 hs.2 hcm.1 (by omega)).mono ?_;rintro e w' ⟨b,d,rfl,hd,hl,e1,e2,e3,e4,e5⟩;exact hK _ _ hl ⟨b,rfl,d,hd.mono fun k _ hk=>Nat.le_trans (Nat.le_trans HN1.out hw.size) hk,e1,e2,e3,e4,e5⟩
  ·intro wo hw KQ hK;go_simp;exact hK _ _ .r .m
  ·intro wo hw h9 KQ hK;cases h9;have kk:=Af (hw.heap HX1d.out) 0 (.int .i64 cf.shards) rfl wo (Le.refl _);go_simp;exact hK _ _ .r .m
  ·intro wo hw KQ hK;go_simp;exact hK _ _ .r .m
  ·intro wo hw h10 h11 KQ hK;cases h10;cases h11;have qm:=HMU.out;go_simp;exact hK _ _ .r .m
  ·intro wo hw h1 h4 h8 h12 KQ hK;obtain⟨a,aB,rfl,HAR,haa,haB⟩:=h1;obtain⟨p,rfl,HPN⟩:=h4;obtain⟨b,rfl,HBD⟩:=h8;cases h12;go_simp;exact hK _ _ (Le.refl _) rfl
  ·intro wo hw KQ hK;go_simp;exact hK _ _ ((Le.refl _).alloc _) ⟨_,rfl,Nat.le_trans HN1.out hw.size,heap_alloc_new _ _⟩
  ·intro wz hz h0 h1 h2 h3 h4 h5 h6 h7 h8 h9 h10 h11 h12 h13 h14;cases h0;obtain⟨a,aB,rfl,HAR,haa,haB⟩:=h1;cases h2;cases h3;obtain⟨p,rfl,HPN⟩:=h4;cases h5;cases h6;cases h7;obtain⟨b,rfl,HBD⟩:=h8;cases h9;cases h10;cases h11;cases h12;cases h13;obtain⟨xs,rfl,hxs,HXS⟩:=h14;skip
   have hle:=(Le.refl w1).drew.trans hz
   have HL2:=Aa (HL0.out.trans hle)
   have HX2:=Aa (hle.heap HX0.out)
   have HY2:=Aa (hle.heap HY0.out)
   have HAR2:=Aa HAR
   have HA2:=Aa (And.intro haa haB)
   have HPN2:=Aa HPN
   have HBD2:=Aa HBD
   have HXS2:=Aa HXS
   have HXL:=Aa hxs
   clear hle hz HX1d HX0 HY0 HL0 HN1 haa haB HAR HPN HBD HXS hxs
   generalize wz=w2 at *
   have HCA:=Aa (CM.ty HAR2.out HA2.out.1 HA2.out.2)
   have HCP:=Aa (show Fx (gTy n1 w2) w2 p ⟨List.replicate cf.shards Wk.zero,[]⟩ from HPN2.out.ty)
   have HCB:=Aa HBD2.out.ty
   have HGS:=Aa (show gTy n1 w2 xs=0 by rw[Ca HXS2.out HXL.out];decide)
   have HGO:=Aa (show ∀ k,k<n1→gTy n1 w2 k=0 from fun k hk=>by rw[gTy,if_pos hk])
   clear HAR2 HA2 HPN2 HBD2
   generalize gTy n1 w2=g2 at *
   go_upto_region 2 with (refine Ak rfl 46 (.tmp 7) (.tmp 21) (cs:=[.pointer none,.pointer (some ⟨a,0,none⟩),.pointer (some ⟨p,0,none⟩),.pointer (some ⟨b,0,none⟩),.int .i64 na]) rfl rfl rfl (by kernel_rfl) (by simp[Value.oneCell']) HXS2.out rfl ?_;intro w3 hn3 hg3;have HXS3:=Aa hn3;have HG3:=Aa hg3;clear hn3 hg3)
   have HF3:=Aa (show Fp (fun k=>k=xs) w2 w3 from Fp.of_grown HG3.out rfl)
   have hno:∀ i,i≠0→∀ k,k=xs→g2 k≠i:=fun i hi k hk e=>hi (by rw[hk,HGS.out] at e;exact e.symm)
   have HCA3:=Aa (HCA.out.mv (g':=g2) HF3.out (hno 2 (by decide)) (fun _ _=>rfl))
   have HCP3:=Aa (HCP.out.mv (g':=g2) HF3.out (hno 3 (by decide)) (fun _ _=>rfl))
   have HCB3:=Aa (HCB.out.mv (g':=g2) HF3.out (fun k hk=>⟨hno 4 (by decide) k hk,hno 8 (by decide) k hk⟩) (fun _ _=>rfl))
   have HX3b:=Aa (HF3.out.heap HX2.out (by have h1:=HXL.out;have h2:=HNX.out;have h3:=HX3.out;omega))
   have HY3:=Aa (HF3.out.heap HY2.out (by have h1:=HXL.out;have h2:=HNX.out;omega))
   have HL3:=Aa (HL2.out.box1 HG3.out (by have h1:=HXL.out;have h2:=HNX.out;have h3:=HX3.out;omega))
   have HSZ3:=Aa (Ah HXS3.out)
   clear hno HCA HCP HCB HX2 HY2 HL2 HF3 HG3 HXS2
   have k1:=Af HXS3.out 1 (.pointer (some ⟨a,0,none⟩)) rfl w3 (Le.refl _)
   have k2:=Af HXS3.out 2 (.pointer (some ⟨p,0,none⟩)) rfl w3 (Le.refl _)
   have k3:=Af HXS3.out 3 (.pointer (some ⟨b,0,none⟩)) rfl w3 (Le.refl _)
   go_wp2_with (refine Al rfl 38 (.tmp 3) rfl (cs:=[.int .i64 cf.shards,.int .i64 cf.intake,.int .i64 cf.window,.int .i64 cf.keep,.int .i64 mp,.int .i64 mt,.int .i64 ms,.int .i64 ml]) _ rfl Tryz.underlying38 rfl (by kernel_rfl) HX3b.out ?_)
   refine (HNW.out g2 w3 a p b HCA3.out HCP3.out HCB3.out).mono ?_
   rintro e w4 ⟨c,g',X,rfl,hct,ea,ep,eb,hl,hg⟩
   have HCT:=Aa (show Bg g' w4 c X (ct0 cf mp mt ms ml slots cmds) from hct)
   have HEQ:=Aa (show X.ar=a∧X.pn=p∧X.bd=b from ⟨ea,ep,eb⟩)
   have HL4:=Aa (HL3.out.trans hl)
   have HXS4:=Aa (hl.heap HXS3.out)
   have HY4:=Aa (hl.heap HY3.out)
   have HGG:=Aa hg
   clear hct ea ep eb hl hg k1 k2 k3 HCA3 HCP3 HCB3 HX3b HY3 HL3 HXS3
   go_upto_region 3 with (refine Ao rfl 41 (.tmp 30) (.tmp 29) rfl [] (v:=.pointer (some ⟨c,0,none⟩)) (old:=.pointer none) (post:=[.pointer (some ⟨a,0,none⟩),.pointer (some ⟨p,0,none⟩),.pointer (some ⟨b,0,none⟩),.int .i64 na]) rfl rfl (by kernel_rfl) rfl HXS4.out ?_;intro w5 hn5 hg5;have HXS5:=Aa hn5;have HG5:=Aa hg5;clear hn5 hg5)
   have HF5:=Aa (show Fp (fun k=>k=xs) w4 w5 from Fp.of_grown HG5.out rfl)
   have HGX:=Aa (show g' xs=0 from (HGG.out xs HSZ3.out).trans HGS.out)
   have HCT5:=Aa (HCT.out.mv (g':=g') HF5.out (fun k hk=>by rw[hk];exact HGX.out) (fun _ _=>rfl))
   have HY5:=Aa (HF5.out.heap HY4.out (by have h1:=HXL.out;have h2:=HNX.out;omega))
   have HL5:=Aa (HL4.out.box1 HG5.out (by have h1:=HXL.out;have h2:=HNX.out;have h3:=HX3.out;omega))
   clear HCT HXS4 HY4 HL4 HF5 HG5
   go_wp2_with (first | (refine Al rfl 46 (.tmp 7) rfl (cs:=[.pointer (some ⟨c,0,none⟩),.pointer (some ⟨a,0,none⟩),.pointer (some ⟨p,0,none⟩),.pointer (some ⟨b,0,none⟩),.int .i64 na]) _ rfl Tryz.underlying46 rfl (by kernel_rfl) HXS5.out ?_) | (refine Ak rfl 46 (.tmp 6) (.tmp 31) (cs:=[.pointer (some ⟨c,0,none⟩),.pointer (some ⟨a,0,none⟩),.pointer (some ⟨p,0,none⟩),.pointer (some ⟨b,0,none⟩),.int .i64 na]) (old:=[.pointer none,.pointer none,.pointer none,.pointer none,.int .i64 0]) rfl rfl rfl (by kernel_rfl) (by simp[Value.oneCell']) HY5.out rfl ?_;intro w6 hn6 hg6;have HY6:=Aa hn6;have HG6:=Aa hg6;clear hn6 hg6))
   refine ret_c Tryz.results14 (Bb.mk' rfl HY6.out Tryz.underlying46 rfl (by kernel_rfl)) ?_
   rw[HR.out]
   have hxy:g' xy=0:=(HGG.out xy (by have h1:=HXL.out;have h2:=HNX.out;have h3:=HSZ3.out;omega)).trans (HGO.out xy HNX.out)
   have hf6:Fp (fun k=>k=xy) w5 w6:=Fp.of_grown HG6.out rfl
   refine⟨c,g',X,?_,HCT5.out.mv hf6 (fun k hk=>by rw[hk];exact hxy) (fun _ _=>rfl),HL5.out.box1 HG6.out (by have h3:=HX3.out;omega),fun k hk=>?_⟩
   ·obtain⟨e1,e2,e3⟩:=HEQ.out
    rw[scV,e1,e2,e3]
   ·have h1:=HXL.out
    have h2:=HNX.out
    have h3:=HX3.out
    have h4:=HSZ3.out
    rw[HGG.out k (by omega)]
    exact HGO.out k (by omega)
end Go.Proofs.YtmcndlofaanjiaaGreat
