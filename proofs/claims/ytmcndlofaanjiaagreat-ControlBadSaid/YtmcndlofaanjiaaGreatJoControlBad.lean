/- Texts of one claim, laid together: ControlBad RowControlBad -/
import Derived.ShutString
import Derived.ChangeOld
import Derived.OpenShut
import Derived.Test.YtmcndlofaanjiaaGreatJo39
import Derived.Test.YtmcndlofaanjiaaGreatJo29
/- ControlBad: bytes that are no request are replied what they are,and change nothing: the law's walk. (Written by gen_cbad.py.) -/
namespace Go.Proofs.YtmcndlofaanjiaaGreat
open Go.RowKit
set_option linter.unusedVariables false
theorem FB {t:Act} (h:t.few=true):t.bytes.length≤1000:=by
 simp only[Act.few,Bool.and_eq_true,decide_eq_true_eq] at h
 unfold Act.bytes
 split
 ·refine Nat.le_trans (BJ _) ?_
  rw[List.length_append]
  have h1:(Rq.head t.id t.req).length=9:=rfl
  have h2:(CS t.req.ssrcs).length=t.req.ssrcs.length:=List.length_map ..
  omega
 ·omega
theorem Fy {w:World} {s:DS} {M:Nat→Prop} {pv tv sv:Value} {ts:List (Trk×Value)} (h:DsB M w s pv tv sv ts):∃ Ap cp At ct As cs,pv=.slice Ap s.people.length cp∧tv=.slice At s.tracks.length ct∧sv=.slice As s.subs.length cs:=by
 obtain⟨Ap,cp,hpv,_⟩:=h.hP.cells
 obtain⟨At,ct,htv,_⟩:=h.hT.cells
 obtain⟨As,cs,hsv,_⟩:=h.hS.cells
 rw[List.length_map] at hpv htv hsv
 rw[h.lenT] at htv
 exact⟨Ap,cp,At,ct,As,cs,hpv,htv,hsv⟩
theorem scene22 (w:World) (z:Sz) {na:Nat} (hna:na=z.cf.shards*z.cm):Calls Tryz.prog 14 #[.agg #[.int .i64 z.cf.shards,.int .i64 z.cf.intake,.int .i64 z.cf.window,.int .i64 3,.int .i64 5,.int .i64 4,.int .i64 z.ms,.int .i64 z.sl],.int .i64 z.sl,.int .i64 z.cm] w (ScnP w (ct0 z.cf 5 4 z.ms z.sl z.sl z.cm) na):=by
 have h1:z.cf.shards=z.shards%4+1:=rfl
 have h2:z.cf.intake=z.intake%5+1:=rfl
 have h3:z.cf.window=z.window%9+1:=rfl
 have h4:z.cf.keep=3:=rfl
 have h5:z.sl=z.slots%9+1:=rfl
 have h6:z.cm=z.cmds%4+1:=rfl
 have h7:z.ms=z.subs%5+1:=rfl
 exact FP w z.cf 5 4 z.ms z.sl z.sl z.cm (by omega) (by omega) (by omega) (by omega) (by omega) (by omega) (by omega) (by omega) (by omega) (by omega) hna
theorem inv22 (z:Sz):Inv (ct0 z.cf 5 4 z.ms z.sl z.sl z.cm) 0:=by
 have h1:z.cf.shards=z.shards%4+1:=rfl
 have h4:z.cf.keep=3:=rfl
 have h5:z.sl=z.slots%9+1:=rfl
 exact Inv.ct0 z.cf 5 4 z.ms z.sl z.sl z.cm (by omega) (by omega) (by omega) (by omega) (by omega) (by omega)
set_option maxRecDepth 100000 in
set_option maxHeartbeats 8000000 in
theorem Er (w:World) (z:Sz) (hz:z.Ok) (l:List Act) (A:Option Addr) (n cap:Nat) (hr:RSl 12 RAct w l (.slice A n cap)) (hn:n≤9223372036854775807) (raw:List UInt8) (A2:Option Addr) (n2 c2:Nat) (hr2:RSl 1 RU8 w raw (.slice A2 n2 c2)) (hn2:n2≤9223372036854775807) (hno:A2=none→n2=0∧c2=0) :
  Calls Tryz.prog 3 #[szV z,.slice A n cap,.slice A2 n2 c2] w (Ax w (.bool true)):=by
 obtain⟨A',cap',hv,_⟩:=id hr
 injection hv with e1 e2 e3
 subst e1 e2 e3
 obtain⟨A2',c2',hv,_⟩:=id hr2
 injection hv with e1 e2 e3
 subst e1 e2 e3
 have HRA:=Aa hr
 have HRR:=Aa hr2
 have HNO:=Aa hno
 have HZ:=Aa hz
 have HX0:=Aa (heap_alloc_new w (.cells #[.int .u8 z.shards,.int .u8 z.intake,.int .u8 z.window,.int .u8 z.slots,.int .u8 z.cmds,.int .u8 z.subs] 23))
 have HL0:=Aa ((Le.refl w).alloc (.cells #[.int .u8 z.shards,.int .u8 z.intake,.int .u8 z.window,.int .u8 z.slots,.int .u8 z.cmds,.int .u8 z.subs] 23))
 obtain⟨R,hR⟩:∃ R,R=Ax w (.bool true):=⟨_,rfl⟩
 rw[← hR]
 have HR:=Aa hR
 show Calls Tryz.prog 3 #[.agg #[.int .u8 z.shards,.int .u8 z.intake,.int .u8 z.window,.int .u8 z.slots,.int .u8 z.cmds,.int .u8 z.subs],.slice A l.length cap,.slice A2 raw.length c2] w R
 clear hR hr hr2 hno hz
 go_enter Tryz.func3,Tryz.ntmps3
 go_upto_region 1 with fail
 generalize World.alloc w _=w1 at *
 generalize w.heap.size=x3 at *
 go_wp2_with fail
 refine (awake22 w1).mono ?_
 rintro e w2 ⟨rfl,hb2⟩
 have HL2:=Aa (HL0.out.trans (Le.mk hb2))
 have HX2:=Aa ((Le.mk hb2).heap HX0.out)
 clear hb2 HX0 HL0
 go_wp2_with fail
 refine (few22_any l A cap w2 (HL2.out.rsl FC HRA.out) hn).mono ?_
 rintro e w3 ⟨rfl,hb3⟩
 have HL3:=Aa (HL2.out.trans (Le.mk hb3))
 have HX3:=Aa ((Le.mk hb3).heap HX2.out)
 clear hb3 HX2 HL2
 cases hfw:fewA l with
 | false =>
  go_wp2_with fail
  rw[HR.out]
  exact⟨rfl,HL3.out.out⟩
 | true =>
  have hfw':=hfw
  rw[fewA,Bool.and_eq_true] at hfw'
  have HFW:=Aa (show ∀ i (h:i<l.length),l[i].few=true from fun i h=>List.all_eq_true.1 hfw'.1 _ (List.getElem_mem h))
  have h200:l.length≤200:=by simpa using hfw'.2
  clear hfw hfw'
  by_cases h100:raw.length≤100
  ·have i100:¬ 100<(raw.length:Int):=by omega
   have HB100:=Aa h100
   clear h100
   go_wp2_with fail
   refine (DJ raw A2 raw.length c2 w3 (HL3.out.rsl BS HRR.out) (by have:=HB100.out;omega)).mono ?_
   rintro e w4 ⟨Aq,cq,rfl,_,hb4,_⟩
   have HL4:=Aa (HL3.out.trans (Le.mk hb4))
   have HX4:=Aa ((Le.mk hb4).heap HX3.out)
   clear hb4 HX3 HL3
   by_cases he:De raw=0
   ·rw[he]
    clear he
    go_wp2_with (refine Ak rfl 31 (.tmp 10) (.tmp 39) (cs:=[.int .i64 (CK raw).kind,.int .i64 (CK raw).who,.int .i64 (CK raw).room,.int .i64 (CK raw).rights,.int .i64 (CK raw).track,.slice Aq (CK raw).ssrcs.length cq,.int .i64 (CK raw).layer,.int .i64 (CK raw).tid]) rfl rfl rfl (by kernel_rfl) (by simp[Value.oneCell']) (heap_alloc_new _ _) rfl ?_;intro w5 hn5 hg5;have HL5:=Aa (HL4.out.trans (((Le.refl w4).alloc _).box1 hg5 (Nat.le_refl _)));clear hn5 hg5)
    rw[HR.out]
    exact⟨rfl,HL5.out.out⟩
   ·have HE:=Aa he
    obtain⟨er,her⟩:∃ e,e=De raw:=⟨_,rfl⟩
    rw[← her]
    have hne:¬ er=0:=by rw[her];exact he
    have hnb:(er==0)=false:=by rw[beq_eq_false_iff_ne];exact hne
    have HER:=Aa her
    clear he her
    go_upto_region 10 with (refine Ak rfl 31 (.tmp 10) (.tmp 39) (cs:=[.int .i64 (CK raw).kind,.int .i64 (CK raw).who,.int .i64 (CK raw).room,.int .i64 (CK raw).rights,.int .i64 (CK raw).track,.slice Aq (CK raw).ssrcs.length cq,.int .i64 (CK raw).layer,.int .i64 (CK raw).tid]) rfl rfl rfl (by kernel_rfl) (by simp[Value.oneCell']) (heap_alloc_new _ _) rfl ?_;intro w5 hn5 hg5;have HL45:=Aa (((Le.refl w4).alloc _).box1 hg5 (Nat.le_refl _));clear hn5 hg5)
    have HL5:=Aa (HL4.out.trans HL45.out)
    have HX5:=Aa (HL45.out.heap HX4.out)
    clear HX4 HL4 HL45 hne hnb
    have HCN:=Aa (EW z HZ.out w5)
    go_wp2_with (refine Al rfl 23 (.tmp 3) rfl (cs:=[.int .u8 z.shards,.int .u8 z.intake,.int .u8 z.window,.int .u8 z.slots,.int .u8 z.cmds,.int .u8 z.subs]) _ rfl Tryz.underlying23 rfl (by kernel_rfl) HX5.out ?_)
    refine HCN.out.mono ?_
    rintro e w6 ⟨rfl,hb6⟩
    have HL6:=Aa (HL5.out.trans (Le.mk hb6))
    clear hb6 HX5 HL5 HCN
    obtain⟨na,hna⟩:∃ na,na=z.cf.shards*z.cm:=⟨_,rfl⟩
    have HNA:=Aa hna
    clear hna
    go_upto_region 11 with (refine Ak rfl 38 (.tmp 12) (.tmp 46) (cs:=[.int .i64 z.cf.shards,.int .i64 z.cf.intake,.int .i64 z.cf.window,.int .i64 3,.int .i64 5,.int .i64 4,.int .i64 z.ms,.int .i64 z.sl]) rfl rfl rfl (by kernel_rfl) (by simp[Value.oneCell']) (heap_alloc_new _ _) rfl ?_;intro w7 hn7 hg7;have HC7:=Aa hn7;have HL7:=Aa (HL6.out.trans (((Le.refl w6).alloc _).box1 hg7 (Nat.le_refl _)));clear hn7 hg7)
    generalize w6.heap.size=xc at *
    have HLW:=Aa HL7.out
    clear HL6
    have HSN:=Aa (scene22 w7 z HNA.out)
    go_wp2_with (refine Al rfl 38 (.tmp 12) rfl (cs:=[.int .i64 z.cf.shards,.int .i64 z.cf.intake,.int .i64 z.cf.window,.int .i64 3,.int .i64 5,.int .i64 4,.int .i64 z.ms,.int .i64 z.sl]) _ rfl Tryz.underlying38 rfl (by kernel_rfl) HC7.out ?_)
    refine HSN.out.mono ?_
    rintro e w8 ⟨c,g,X,rfl,hct,hl8,hgz⟩
    have HSC8:=Aa (show CP (fun k=>k<w7.heap.size) w7 w8 c X.ar X.pn X.bd (ct0 z.cf 5 4 z.ms z.sl z.sl z.cm) 0 from ⟨g,X,hct,rfl,rfl,rfl,fun k hk=>⟨hgz k hk,Nat.lt_of_lt_of_le hk hl8.size⟩,fun k hk=>hk,hl8,inv22 z⟩)
    have HC8:=Aa (hl8.heap HC7.out)
    have HKC:=Aa (Ah HC7.out)
    clear hct hl8 hgz HC7 HSN
    rw[scV]
    generalize X.ar=a at *
    generalize X.pn=p at *
    generalize X.bd=b at *
    go_upto_region 12 with (refine Ak rfl 46 (.tmp 15) (.tmp 52) (cs:=[.pointer (some ⟨c,0,none⟩),.pointer (some ⟨a,0,none⟩),.pointer (some ⟨p,0,none⟩),.pointer (some ⟨b,0,none⟩),.int .i64 na]) rfl rfl rfl (by kernel_rfl) (by simp[Value.oneCell']) (heap_alloc_new _ _) rfl ?_;intro w9 hn9 hg9;have HX9:=Aa hn9;have HL9:=Aa (((Le.refl w8).alloc _).box1 hg9 (Nat.le_refl _));clear hn9 hg9)
    have HSC9:=Aa (HSC8.out.more HL9.out)
    have HC9:=Aa (HL9.out.heap HC8.out)
    have HK9:=Aa (show (fun k=>k<w7.heap.size∨(w8.heap.size≤k∧k<w9.heap.size)) w8.heap.size∧(fun k=>k<w7.heap.size∨(w8.heap.size≤k∧k<w9.heap.size)) xc from ⟨.inr ⟨Nat.le_refl _,Ah HX9.out⟩,.inl HKC.out⟩)
    generalize (fun k=>k<w7.heap.size∨(w8.heap.size≤k∧k<w9.heap.size))=K9 at *
    generalize w8.heap.size=xs at *
    clear HSC8 HL9 HC8 HKC
    go_wp2_with fail
    go_loopw [16] (fun i wr=>∃ (k:Nat) (K:Nat→Prop) (C:Ct (Nat×Nat)),k≤l.length∧i=.int .i64 k∧Hd (K xs∧K xc)∧Hd (CP K w7 wr c a p b C k)∧Hd (Ex C z.cf z.cm)∧Hd (wr.heap[xs]?=some (.cells #[.pointer (some ⟨c,0,none⟩),.pointer (some ⟨a,0,none⟩),.pointer (some ⟨p,0,none⟩),.pointer (some ⟨b,0,none⟩),.int .i64 na] 46 (0,0)))∧Hd (wr.heap[xc]?=some (.cells #[.int .i64 z.cf.shards,.int .i64 z.cf.intake,.int .i64 z.cf.window,.int .i64 3,.int .i64 5,.int .i64 4,.int .i64 z.ms,.int .i64 z.sl] 38 (0,0)))) (fun i _=>l.length - (intOf i).toNat)
    case atStart=>exact⟨0,K9,ct0 z.cf 5 4 z.ms z.sl z.sl z.cm,Nat.zero_le _,rfl,HK9,HSC9,Aa ⟨rfl,rfl,rfl⟩,HX9,HC9⟩
    case round =>
     clear HX9 HC9 HSC9 HK9
     obtain⟨k,K,C,hk,rfl,HKS,HSC,HQ,HX,HC⟩:=hrel
     rcases Nat.lt_or_ge k l.length with hlt | hge
     ·have hltI:(k:Int)<(l.length:Int):=by omega
      have q3:IntKind.i64.wrap ((k:Int)+1)=((k+1:Nat):Int):=by rw[IntWalk.i64_in _ (by omega)];simp
      have hrw:=(HL7.out.trans HSC.out.le0).rsl FC HRA.out
      obtain⟨A',cap',hv,_,hi⟩:=hrw
      injection hv with e1 _ e3
      subst e1 e3
      obtain⟨gb,off,hA,hg⟩:=hi (by rintro rfl;simp at hlt)
      subst hA
      obtain⟨cs,_,hc,A1,c1,A3,c3,hcs,h1,h3,hn3,hid,_⟩:=hg k hlt
      subst hcs
      have HBL:=Aa (FB (HFW.out k hlt))
      have HKN:=Aa hlt
      generalize l[k]=t at *
      have HRG:=Aa (show wr.drew.rangeAt gb (off+k*12) [.int .i64 t.kind,.int .u64 t.id,.int .i64 t.req.kind,.int .i64 t.req.who,.int .i64 t.req.room,.int .i64 t.req.rights,.int .i64 t.req.track,.slice A1 t.req.ssrcs.length c1,.int .i64 t.req.layer,.int .i64 t.req.tid,.slice A3 t.raw.length c3,.int .i64 t.shard] from fun j v hj=>(hc j (by have:=(List.getElem?_eq_some_iff.1 hj).1;simpa using this)).trans hj)
      have HR1:=Aa h1
      have HR3:=Aa h3
      have HN3:=Aa hn3
      have HID:=Aa hid
      clear hi hg hc h1 h3 hn3 hid
      go_upto_region 15 with fail
      have HX15:=Aa ((Le.refl wr).drew.heap HX.out)
      refine' AW 8 8 59 Le (IsD _::IsD _::IsD _::IsD _::IsD _::IsD _::IsD _::(fun _ v W=>∃ A cap,v=.slice A t.bytes.length cap∧RSl 1 RU8 W t.bytes (.slice A t.bytes.length cap)∧(A=none→t.bytes.length=0∧cap=0))::[]) ([]::[0]::[]::[]::[]::[3,4]::[5]::[6]::[]) (by kernel_rfl) (by kernel_rfl) (by rfl) (by kernel_rfl) (by kernel_rfl) Le.refl (fun _ _ _ h h'=>h.trans h') ⟨StD.is,StD.is,StD.is,StD.is,StD.is,StD.is,StD.is,(fun _ _ _ _ hb h=>Exists.elim h fun A h=>Exists.elim h fun c h=>⟨A,c,h.1,hb.rsl BS h.2.1,h.2.2⟩),trivial⟩ ?m15
      case m15 =>
       simp (maxSteps:=100000000) only [AR,Hr,AU,AH,AE,B6,AD,Am,Au,List.set_cons_succ,List.set_cons_zero,List.map_cons,List.getElem?_cons_zero,List.getElem?_cons_succ,Option.getD_some,List.map_nil,List.take_succ_cons,List.take_zero,List.drop_succ_cons,List.drop_zero,List.cons_append,List.nil_append,List.length_cons,List.length_nil,Nat.reduceAdd]
       intro x0 x1 x2 x3 x4 x5 x6 x7
       refine⟨⟨?_,?_,?_,?_,?_,?_,?_,?_,trivial⟩,?_⟩
       ·intro wo hw KQ hK;go_simp;exact hK _ _ .r .m
       ·intro wo hw h0 KQ hK;cases h0;have kk:=Af (hw.heap HX15.out) 0 (.pointer (some ⟨c,0,none⟩)) rfl wo (Le.refl _);go_simp;exact hK _ _ .r .m
       ·intro wo hw KQ hK;go_simp;exact hK _ _ .r .m
       ·intro wo hw KQ hK;go_simp;exact hK _ _ .r .m
       ·intro wo hw KQ hK;go_simp;exact hK _ _ .r .m
       ·intro wo hw h3 h4 KQ hK;cases h3;cases h4;go_simp;exact hK _ _ .r .m
       ·intro wo hw h5 KQ hK;cases h5;refine cast (if_pos (show Region.wanted _ _=true from rfl)).symm ?_;refine wp_load_mid 51 (.tmp 64) rfl gb (off+k*12) rfl [.int .i64 t.kind,.int .u64 t.id,.int .i64 t.req.kind,.int .i64 t.req.who,.int .i64 t.req.room,.int .i64 t.req.rights,.int .i64 t.req.track,.slice A1 t.req.ssrcs.length c1,.int .i64 t.req.layer,.int .i64 t.req.tid,.slice A3 t.raw.length c3,.int .i64 t.shard] _ (fun j v hj=>hw.cell (HRG.out j v hj)) Tryz.underlying51 rfl (by kernel_rfl) ?_;exact hK _ _ .r .m
       ·intro wo hw h6 KQ hK;cases h6;go_simp;refine (GC t A1 c1 A3 c3 wo (((Le.refl wr).drew.trans hw).rsl Dl HR1.out) (((Le.refl wr).drew.trans hw).rsl BS HR3.out) HN3.out HID.out).mono ?_;rintro e w' ⟨A,cap,rfl,hr,hn,hl⟩;exact hK _ _ hl ⟨A,cap,rfl,hr,hn⟩
       ·intro wz hz h0 h1 h2 h3 h4 h5 h6 h7;cases h0;cases h1;cases h2;cases h3;cases h4;cases h5;cases h6;obtain⟨Ab,cb,rfl,HRB,hnb⟩:=h7;skip
        have hle:=(Le.refl wr).drew.trans hz
        have HSCz:=Aa (HSC.out.le hle)
        have HXz:=Aa (hle.heap HX.out)
        have HCz:=Aa (hle.heap HC.out)
        have HRBz:=Aa HRB
        have HNB:=Aa hnb
        clear hle hz HSC HX HC HRB hnb HX15 HRG HR1 HR3 HN3 HID
        go_wp2_with fail
        refine (scCall HSCz.out k t.bytes Ab cb HRBz.out HNB.out HBL.out).mono ?_
        rintro e w10 ⟨rfl,hs10,hf10⟩
        have HSC10:=Aa hs10
        have HX10:=Aa (hf10.heap HXz.out (fun e=>e HKS.out.1))
        have HC10:=Aa (hf10.heap HCz.out (fun e=>e HKS.out.2))
        clear hs10 hf10 HSCz HXz HCz HRBz HNB
        have k0:=Af HX10.out 0 (.pointer (some ⟨c,0,none⟩)) rfl w10 (Le.refl _)
        go_wp2_with fail
        refine (Fo HSC10.out (by omega)).mono ?_
        rintro e w11 ⟨p0,dv,rv,K2,rfl,hkk,_,_,hs11,hf11⟩
        have HQ11:=Aa (HQ.out.step (by show 1≤z.intake%5+1;omega) k t.bytes p0)
        have HSC11:=Aa hs11
        have HX11:=Aa (hf11.heap HX10.out (fun e=>e HKS.out.1))
        have HC11:=Aa (hf11.heap HC10.out (fun e=>e HKS.out.2))
        have HKS2:=Aa (show K2 xs∧K2 xc from ⟨hkk _ HKS.out.1,hkk _ HKS.out.2⟩)
        generalize (((C.call k t.bytes).1.accept (fun s=>(p0,s))).1)=C2 at *
        clear hs11 hf11 hkk k0 HSC10 HX10 HC10 HQ HKS HBL
        go_upto_region 17 with fail
        obtain⟨r,hr⟩:∃ r:Nat,r=k%z.cf.shards:=⟨_,rfl⟩
        have hs1:z.cf.shards=z.shards%4+1:=rfl
        have hrl:r<z.cf.shards:=by rw[hr];exact Nat.mod_lt _ (by omega)
        have HRL:=Aa hrl
        have hs2:=HQ11.out.cf
        have HOB:=Aa (scObey HSC11.out (by omega) (k:=r) (by rw[hs2];exact hrl) (na:=na) (by rw[HSC11.out.inv.bd.sh,hs2,HQ11.out.rm];exact HNA.out))
        have u1:((k:Int).tmod (z.cf.shards:Int))=(r:Int):=by rw[Int.tmod_eq_emod_of_nonneg (by omega),hr];rfl
        have u2:IntKind.i64.wrap (r:Int)=(r:Int):=IntWalk.i64_in _ (by omega)
        have u3:((z.cf.shards:Int)==0)=false:=by rw[beq_eq_false_iff_ne];omega
        have u4:¬ (z.cf.shards:Int)=0:=by omega
        have HX17:=Aa ((Le.refl w11).drew.heap HX11.out)
        have HC17:=Aa ((Le.refl w11).drew.heap HC11.out)
        clear hr hs1 hs2 hrl HOB
        refine' Aj 5 5 71 Le (Is _::Is _::Is _::Is _::Is _::[]) ([]::[]::[]::[2]::[1,3]::[]) (by kernel_rfl) (by kernel_rfl) (by rfl) (by kernel_rfl) (by kernel_rfl) Le.refl (fun _ _ _ h h'=>h.trans h') ⟨St.is,St.is,St.is,St.is,St.is,trivial⟩ ?m17
        case m17 =>
         simp (maxSteps:=100000000) only [AR,Bv,AK,AC,An,AD,Am,Au,List.set_cons_succ,List.set_cons_zero,List.getElem?_cons_zero,List.getElem?_cons_succ,List.take_succ_cons,List.take_zero,List.drop_succ_cons,List.drop_zero,List.cons_append,List.nil_append,List.length_cons,List.length_nil,Nat.reduceAdd]
         intro x0 x1 x2 x3 x4
         refine⟨⟨?_,?_,?_,?_,?_,trivial⟩,?_⟩
         ·intro wo hw KQ hK;refine cast (if_pos (show Region.wanted _ _=true from rfl)).symm ?_;have hz:=(hw.heap HX17.out);refine Av 46 (.tmp 15) rfl (cs:=[.pointer (some ⟨c,0,none⟩),.pointer (some ⟨a,0,none⟩),.pointer (some ⟨p,0,none⟩),.pointer (some ⟨b,0,none⟩),.int .i64 na]) _ rfl Tryz.underlying46 rfl (by kernel_rfl) hz ?_;exact hK _ _ .r .m
         ·intro wo hw KQ hK;go_simp;exact hK _ _ .r .m
         ·intro wo hw KQ hK;go_simp;exact hK _ _ .r .m
         ·intro wo hw h2 KQ hK;cases h2;have kk:=Af (hw.heap HC17.out) 0 (.int .i64 z.cf.shards) rfl wo (Le.refl _);go_simp;exact hK _ _ .r .m
         ·intro wo hw h1 h3 KQ hK;cases h1;cases h3;go_simp;exact hK _ _ .r .m
         ·intro wz hz h0 h1 h2 h3 h4;cases h0;cases h1;cases h2;cases h3;cases h4;skip
          have hle:=(Le.refl w11).drew.trans hz
          have HSC12:=Aa (HSC11.out.le hle)
          have HX12:=Aa (hle.heap HX11.out)
          have HC12:=Aa (hle.heap HC11.out)
          have hs2:=HQ11.out.cf
          have HOB:=Aa (scObey HSC12.out (by omega) (k:=r) (by rw[hs2];exact HRL.out) (na:=na) (by rw[HSC12.out.inv.bd.sh,hs2,HQ11.out.rm];exact HNA.out))
          clear hle hz HSC11 HX11 HC11 HX17 HC17 hs2
          go_wp2_with fail
          refine HOB.out.mono ?_
          rintro e w13 ⟨rfl,hs13,hf13⟩
          have HSC13:=Aa hs13
          have HX13:=Aa (hf13.heap HX12.out (fun e=>e HKS2.out.1))
          have HC13:=Aa (hf13.heap HC12.out (fun e=>e HKS2.out.2))
          have HQ13:=Aa (HQ11.out.obey r)
          clear hs13 hf13 HSC12 HX12 HC12 HOB HQ11
          generalize (C2.obey r).1=C3 at *
          have k0:=Af HX13.out 0 (.pointer (some ⟨c,0,none⟩)) rfl w13 (Le.refl _)
          go_wp2_with fail
          refine (F9 HSC13.out (by omega)).mono ?_
          rintro e w14 ⟨rv2,K3,rfl,hkk,_,hs14,hf14⟩
          have HSC14:=Aa hs14
          have HX14:=Aa (hf14.heap HX13.out (fun e=>e HKS2.out.1))
          have HC14:=Aa (hf14.heap HC13.out (fun e=>e HKS2.out.2))
          have HKS3:=Aa (show K3 xs∧K3 xc from ⟨hkk _ HKS2.out.1,hkk _ HKS2.out.2⟩)
          have HQ14:=Aa HQ13.out.collect
          clear hs14 hf14 hkk k0 HSC13 HX13 HC13 HQ13 HKS2
          go_wp2_with fail
          exact⟨⟨k+1,K3,_,HKN.out,rfl,HKS3,HSC14,HQ14,HX14,HC14⟩,by simp only[intOf];omega⟩
     ·have hgeI:¬ (k:Int)<(l.length:Int):=by omega
      have k0:=Af HX.out 0 (.pointer (some ⟨c,0,none⟩)) rfl wr (Le.refl _)
      have HAC:=Aa (show (C.call 5000 raw).2=true∧∀ p0:Nat,(C.call 5000 raw).1.accept (fun s=>(p0,s))=({ C with calls:=[] },[],[⟨5000,0,er⟩]) from by
       have h1:=Hl C (k:=5000) (b:=raw) HQ.out.calls (by rw[HQ.out.cf];show 1≤z.intake%5+1;omega)
       rw[h1]
       refine⟨rfl,fun p0=>?_⟩
       rw[HER.out]
       show Ct.accept1 _ _ 5000 raw=_
       rw[Ct.accept1,if_pos HE.out])
      clear HC HL7 HRA HFW HQ
      go_wp2_with fail
      refine (scState HSC.out).mono ?_
      rintro e w19 ⟨pv,tv,sv,ts,rfl,hds,hl19⟩
      obtain⟨Ap1,cp1,At1,ct1,As1,cs1,e1,e2,e3⟩:=Fy hds
      subst e1 e2 e3
      have HL19:=Aa hl19
      clear hds hl19 k0
      go_upto_region 20 with (refine Ak rfl 62 (.tmp 17) (.tmp 82) (cs:=[.int .i64 C.s.mp,.int .i64 C.s.mt,.int .i64 C.s.ms,.int .i64 C.s.ml,.slice Ap1 C.s.people.length cp1,.slice At1 C.s.tracks.length ct1,.slice As1 C.s.subs.length cs1]) rfl rfl rfl (by kernel_rfl) (GM rfl rfl rfl) (heap_alloc_new _ _) rfl ?_;intro w20 hn20 hg20;have HS20:=Aa hn20;have HL20:=Aa (HL19.out.trans (((Le.refl w19).alloc _).box1 hg20 (Nat.le_refl _)));clear hn20 hg20)
      have HSC20:=Aa (HSC.out.more HL20.out)
      have HK20:=Aa (show (fun j=>K j∨(wr.heap.size≤j∧j<w20.heap.size)) xs∧(fun j=>K j∨(wr.heap.size≤j∧j<w20.heap.size)) w19.heap.size from ⟨.inl HKS.out.1,.inr ⟨HL19.out.size,Ah HS20.out⟩⟩)
      have HX20:=Aa (HL20.out.heap HX.out)
      clear HSC HX HL19 HL20 HKS
      generalize (fun j=>K j∨(wr.heap.size≤j∧j<w20.heap.size))=K2 at *
      generalize w19.heap.size=x17 at *
      have k0:=Af HX20.out 0 (.pointer (some ⟨c,0,none⟩)) rfl w20 (Le.refl _)
      obtain⟨o1,N1,ht,hto,_⟩:=Fr HSC20.out
      go_wp2_with fail
      refine ht.mono ?_
      rintro e w21 ⟨rfl,hb21⟩
      have hto21:=TbO.leN hto (Le.mk hb21)
      go_wp2_with fail
      refine (CX hto21).mono ?_
      rintro e w22 ⟨rfl,hb22⟩
      have hl22:=(Le.mk hb21).trans (Le.mk hb22)
      have HSC22:=Aa (HSC20.out.le hl22)
      have HX22:=Aa (hl22.heap HX20.out)
      have HS22:=Aa (hl22.heap HS20.out)
      clear hb21 hb22 ht hto hto21 hl22 k0 HSC20 HX20 HS20
      have k1:=Af HX22.out 1 (.pointer (some ⟨a,0,none⟩)) rfl w22 (Le.refl _)
      go_wp2_with fail
      refine (scLive HSC22.out).mono ?_
      rintro e w23 ⟨rfl,hb23⟩
      have HSC23:=Aa (HSC22.out.le (Le.mk hb23))
      have HX23:=Aa ((Le.mk hb23).heap HX22.out)
      have HS23:=Aa ((Le.mk hb23).heap HS22.out)
      clear hb23 k1 HSC22 HX22 HS22
      have k0:=Af HX23.out 0 (.pointer (some ⟨c,0,none⟩)) rfl w23 (Le.refl _)
      have hwl:=HSC23.out.le0
      go_wp2_with fail
      refine (scCall HSC23.out 5000 raw A2 c2 ((HLW.out.trans hwl).rsl BS HRR.out) HNO.out (by have:=HB100.out;omega)).mono ?_
      rintro e w24 ⟨rfl,hs24,hf24⟩
      rw[HAC.out.1]
      have HSC24:=Aa hs24
      have HX24:=Aa (hf24.heap HX23.out (fun e=>e HK20.out.1))
      have HS24:=Aa (hf24.heap HS23.out (fun e=>e HK20.out.2))
      clear hs24 hf24 k0 HSC23 HX23 HS23 hwl
      have k0:=Af HX24.out 0 (.pointer (some ⟨c,0,none⟩)) rfl w24 (Le.refl _)
      go_wp2_with fail
      refine (Fo HSC24.out (by omega)).mono ?_
      rintro e w25 ⟨p0,dv,rv,K3,rfl,hkk,hd,hrr,hs25,hf25⟩
      rw[HAC.out.2 p0] at hd hrr hs25
      have HX25:=Aa (hf25.heap HX24.out (fun e=>e HK20.out.1))
      have HS25:=Aa (hf25.heap HS24.out (fun e=>e HK20.out.2))
      have HSC25:=Aa (show CP K3 w7 w25 c a p b { C with calls:=[] } (k+1) from hs25)
      rcases hd with ⟨_,hdv⟩ | ⟨d',gd,Ad,cd,e1,_⟩
      case inr=>cases e1
      subst hdv
      have hrr:AA K3 w25 70 3 rv [rpC ⟨5000,0,er⟩]:=hrr
      obtain⟨Ar,cr,hv,_,_,_⟩:=hrr.cells
      have hv:rv=.slice Ar 1 cr:=hv
      subst hv
      obtain⟨gr,hA,hrg⟩:=hrr.elem (j:=0) (x:=rpC ⟨5000,0,er⟩) rfl
      subst hA
      have HR0:=Aa (show w25.cell? ⟨gr,0,none⟩=some (.int .i64 5000) from by have:=hrg 0 _ (show (rpC ⟨5000,0,er⟩)[0]?=some _ from rfl);simpa using this)
      have HR1:=Aa (show w25.cell? ⟨gr,1,none⟩=some (.int .u64 0) from by have:=hrg 1 _ (show (rpC ⟨5000,0,er⟩)[1]?=some _ from rfl);simpa using this)
      have HR2:=Aa (show w25.cell? ⟨gr,2,none⟩=some (.int .i64 er) from by have:=hrg 2 _ (show (rpC ⟨5000,0,er⟩)[2]?=some _ from rfl);simpa using this)
      clear hs25 hf25 hkk hrr hrg k0 HSC24 HX24 HS24
      have k0:=Af HX25.out 0 (.pointer (some ⟨c,0,none⟩)) rfl w25 (Le.refl _)
      go_wp2_with fail
      refine (scState HSC25.out).mono ?_
      rintro e w26 ⟨pv,tv,sv,ts2,rfl,hds,hl26⟩
      obtain⟨Ap2,cp2,At2,ct2,As2,cs2,e1,e2,e3⟩:=Fy hds
      subst e1 e2 e3
      have HL26:=Aa hl26
      clear hds hl26 k0
      have HTT:=Aa (fun W (hl:Le w25 W)=>show ∃ o N,Calls Tryz.prog 21 #[.pointer (some ⟨c,0,none⟩)] W (Ax W (Cp o))∧TbO N W o C.t from by
       obtain⟨o,N,h1,h2,_⟩:=Fr (HSC25.out.le hl)
       exact⟨o,N,h1,h2⟩)
      have HLV:=Aa (fun W (hl:Le w25 W)=>show Calls Tryz.prog 23 #[.pointer (some ⟨a,0,none⟩)] W (Ax W (.int .i64 (Ba C.slots))) from scLive (C:={ C with calls:=[] }) (HSC25.out.le hl))
      go_wp2_with (refine Ak rfl 62 (.tmp 22) (.tmp 103) (cs:=[.int .i64 C.s.mp,.int .i64 C.s.mt,.int .i64 C.s.ms,.int .i64 C.s.ml,.slice Ap2 C.s.people.length cp2,.slice At2 C.s.tracks.length ct2,.slice As2 C.s.subs.length cs2]) rfl rfl rfl (by kernel_rfl) (GM rfl rfl rfl) (heap_alloc_new _ _) rfl ?_;intro w27 hn27 hg27;have HS27:=Aa hn27;have HL27:=Aa (HL26.out.trans (((Le.refl w26).alloc _).box1 hg27 (Nat.le_refl _)));have m0:=HL27.out.cell HR0.out;have m1:=HL27.out.cell HR1.out;have m2:=HL27.out.cell HR2.out;have HP27:=Aa (HL27.out.heap HS25.out);have HX27:=Aa (HL27.out.heap HX25.out);have s4:=Af HP27.out 4 (.slice Ap1 C.s.people.length cp1) rfl w27 (Le.refl _);have s5:=Af HP27.out 5 (.slice At1 C.s.tracks.length ct1) rfl w27 (Le.refl _);have s6:=Af HP27.out 6 (.slice As1 C.s.subs.length cs1) rfl w27 (Le.refl _);have t4:=Af HS27.out 4 (.slice Ap2 C.s.people.length cp2) rfl w27 (Le.refl _);have t5:=Af HS27.out 5 (.slice At2 C.s.tracks.length ct2) rfl w27 (Le.refl _);have t6:=Af HS27.out 6 (.slice As2 C.s.subs.length cs2) rfl w27 (Le.refl _);have k0:=Af HX27.out 0 (.pointer (some ⟨c,0,none⟩)) rfl w27 (Le.refl _);clear hn27 hg27)
      obtain⟨o3,N3,ht,hto⟩:=HTT.out w27 HL27.out
      refine ht.mono ?_
      rintro e w28 ⟨rfl,hb28⟩
      have hto28:=TbO.leN hto (Le.mk hb28)
      go_wp2_with fail
      refine (CX hto28).mono ?_
      rintro e w29 ⟨rfl,hb29⟩
      have hl29:=HL27.out.trans ((Le.mk hb28).trans (Le.mk hb29))
      have HL29:=Aa hl29
      have k1:=Af (hl29.heap HX25.out) 1 (.pointer (some ⟨a,0,none⟩)) rfl w29 (Le.refl _)
      clear hb28 hb29 ht hto hto28 hl29
      go_wp2_with fail
      refine (HLV.out w29 HL29.out).mono ?_
      rintro e w30 ⟨rfl,hb30⟩
      have HL30:=Aa (HLW.out.trans (HSC25.out.le0.trans (HL29.out.trans (Le.mk hb30))))
      clear hb30 k1
      go_wp2_with fail
      rw[HR.out]
      exact⟨rfl,HL30.out.out⟩
  ·have i100:100<(raw.length:Int):=by omega
   clear h100
   go_wp2_with fail
   rw[HR.out]
   exact⟨rfl,HL3.out.out⟩
end Go.Proofs.YtmcndlofaanjiaaGreat

/- ControlBad: for every input the call returns true,and each argument reads behind it as it read before. No condition. -/
namespace Go.Proofs.YtmcndlofaanjiaaGreat.controlBad
open Go.ChangeShapes Go.WideShapes Go.ChangeAt Go.RowKit
open Go.ChangeMaps (open_string shut_string)
set_option linter.unusedVariables false

theorem own:ownKnob Tryz.prog.godebug=none:=by kernel_rfl
theorem Gt:laidOutB Tryz.prog=true:=by kernel_rfl

set_option maxRecDepth 100000 in
theorem lifted (os:Os) (started:os.Started) (H:Type) (enc:TypeId×Value→H) :
  ReturnsInHanded {} Tryz.checked os 3 .any (Rows.controlBadSpec.pre6 enc Tryz.prog Tryz.f3 Rows.controlBadRow.domain false) (Rows.controlBadSpec.post enc Tryz.prog Tryz.f3 false true false false):=by
 refine returnsInHanded_of_change (C:=Tryz.checked) own started (by kernel_rfl) Tryz.func3
  (ChangeSpec.witness6 (enc:=enc) (C:=Tryz.checked) false ⟨#[],#[.agg #[.int .u8 0,.int .u8 0,.int .u8 0,.int .u8 0,.int .u8 0,.int .u8 0],.slice none 0 0,.slice none 0 0],[]⟩ 8 (by kernel_rfl) (by kernel_rfl) (by kernel_rfl) (by kernel_rfl)) ?_
 intro W base args ds gs before hval0 hW hcnd _
 have hval:∀ (j:Nat) t v,Tryz.f3.params[j]?=some t→args[j]?=some v→Value.okWide Tryz.prog W .any base t v:=hval0
 have hW':=hW
 obtain⟨p,q,hA0,hV,rfl,hfz,hnd⟩:=hW
 have hA:DataW.TrodAll enc Tryz.prog W 0 (fun _=>true) true Tryz.f3.params.toList args.toList ds p:=hA0
 rw[Tryz.params3] at hA hval
 obtain⟨v0,vs0,d0,ds0,p0,q0,hargs,rfl,rfl,h0,r0⟩:=trodAll_cons hA
 obtain⟨v1,vs1,d1,ds1,p1,q1,rfl,rfl,rfl,h1,r1⟩:=trodAll_cons r0
 obtain⟨v2,vs2,d2,ds2,p2,q2,rfl,rfl,rfl,h2,r2⟩:=trodAll_cons r1
 obtain⟨rfl,rfl,rfl⟩:=trodAll_nil r2
 obtain rfl:args=#[v0,v1,v2]:=by cases args;simp_all
 obtain⟨rfl,rfl⟩:=trodVars_none hV
 have lt0:∀ x∈p0,x.block<W.heap.size:=by obtain⟨m,hm⟩:=h0;exact DataW.trod_lt m _ _ _ hm
 have lt1:∀ x∈p1,x.block<W.heap.size:=by obtain⟨m,hm⟩:=h1;exact DataW.trod_lt m _ _ _ hm
 have lt2:∀ x∈p2,x.block<W.heap.size:=by obtain⟨m,hm⟩:=h2;exact DataW.trod_lt m _ _ _ hm
 obtain⟨z0,hv0,w0⟩:=open_size (hval 0 23 v0 rfl rfl) h0
 subst hv0
 obtain⟨a1,n1,c1,rfl⟩:=okWide_slice Tryz.underlying24 (hval 1 24 v1 rfl rfl)
 obtain⟨l1,w1,x1⟩:=open_acts h1
 obtain⟨a2,n2,c2,rfl⟩:=okWide_slice Tryz.underlying25 (hval 2 25 v2 rfl rfl)
 obtain⟨l2,w2,x2,y2⟩:=Ic h2
 clear hA0 hval0
 refine (Er W z0 w0 l1 a1 n1 c1 w1 x1 l2 a2 n2 c2 w2 x2 y2).mono fun e W' ⟨he,bel⟩=>?_
 subst he
 exact⟨_,rfl,_,_,_,[],_,[],hW',trodAll_mk1 (shut_bool Tryz.underlying4 _),(trodAll_cons_mk (Below.trod Gt (by kernel_rfl) (of_decide_eq_true (by kernel_rfl)) h0 bel lt0) (trodAll_cons_mk (Below.trod Gt (by kernel_rfl) (of_decide_eq_true (by kernel_rfl)) h1 bel lt1) (trodAll_cons_mk (Below.trod Gt (by kernel_rfl) (of_decide_eq_true (by kernel_rfl)) h2 bel lt2) trodAll_mk0))),rfl,bel.frame _,fun h=>by cases h⟩

theorem over:Rows.controlBadRow.holds Tryz.pinned (OpenSpec.ofChange Rows.controlBadSpec) :=
 OpenClaim.holds_of_wide 3 Tryz.f3 rfl rfl rfl rfl rfl rfl rfl ⟨rfl,rfl,rfl,rfl,rfl⟩ rfl rfl rfl rfl rfl (by kernel_rfl) Tryz.func3 (by kernel_rfl)
  (of_decide_eq_true (by kernel_rfl)) (by unfold Func.isWrapper;first | (rw[if_pos (by decide +kernel)];kernel_rfl) | (rw[if_neg (by decide +kernel)];exact⟨rfl,rfl⟩))
  (fun os started H enc _=>lifted os started H enc)

theorem proved:Rows.ControlBadSaid:=over
#print axioms proved
end Go.Proofs.YtmcndlofaanjiaaGreat.controlBad
