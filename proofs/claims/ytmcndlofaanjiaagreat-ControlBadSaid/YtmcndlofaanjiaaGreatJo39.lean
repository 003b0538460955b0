/- Texts of one claim, laid together: Awk22 Open OpAct -/
import Derived.ProofKit
import Derived.Deep.Slices
import Derived.Deep.Fields
import Derived.Test.YtmcndlofaanjiaaGreatJo38
import Derived.Test.YtmcndlofaanjiaaGreatJo01
/- awake of control's laws. (Written by gen_awk22.py.) -/
namespace Go.Proofs.YtmcndlofaanjiaaGreat
open Go.RowKit
set_option linter.unusedVariables false
set_option maxRecDepth 100000
set_option maxHeartbeats 8000000
theorem awConf (w:World):Calls Tryz.prog 13 #[.agg #[.int .u8 1,.int .u8 4,.int .u8 8,.int .u8 3,.int .u8 2,.int .u8 2]] w (Ax w (.tuple #[.agg #[.int .i64 2,.int .i64 5,.int .i64 9,.int .i64 3,.int .i64 5,.int .i64 4,.int .i64 3,.int .i64 4],.int .i64 4,.int .i64 3])) :=
 EW ⟨1,4,8,3,2,2⟩ ⟨by decide,by decide,by decide,by decide,by decide,by decide⟩ w
theorem awScene (w:World):Calls Tryz.prog 14 #[.agg #[.int .i64 2,.int .i64 5,.int .i64 9,.int .i64 3,.int .i64 5,.int .i64 4,.int .i64 3,.int .i64 4],.int .i64 4,.int .i64 3] w (ScnP w awC 6) :=
 FP w ⟨2,5,9,3⟩ 5 4 3 4 4 3 ⟨by decide,by decide⟩ ⟨by decide,by decide⟩ ⟨by decide,by decide⟩ ⟨by decide,by decide⟩ ⟨by decide,by decide⟩ ⟨by decide,by decide⟩ ⟨by decide,by decide⟩ ⟨by decide,by decide⟩ ⟨by decide,by decide⟩ ⟨by decide,by decide⟩ (na:=6) rfl
theorem awInv:Inv awC 0:=Inv.ct0 ⟨2,5,9,3⟩ 5 4 3 4 4 3 ⟨by decide,by decide⟩ ⟨by decide,by decide⟩ (by decide) (by decide) (by decide) (by decide)
def awA (k x9:Nat):Option Addr:=match k with | 1=>some ⟨x9,0,none⟩ | _=>none
theorem awS_q (p p':Nat) {k:Nat} (hk:k≤2):awS p k=awS p' k:=by
 rcases (show k=0∨k=1∨k=2 by omega) with rfl | rfl | rfl
 ·rfl
 ·kernel_rfl
 ·exact awS_p p p'
theorem aw_put {k:Nat} (hk:k<3):(awQ k).put (k+10)=awB k∧(awQ k).err=0∧(awB k).length≤1000:=by
 rcases (show k=0∨k=1∨k=2 by omega) with rfl | rfl | rfl
 ·exact⟨by kernel_rfl,by kernel_rfl,Nat.le_trans (BJ _) (by decide)⟩
 ·exact⟨by kernel_rfl,by kernel_rfl,Nat.le_trans (BJ _) (by decide)⟩
 ·exact⟨by kernel_rfl,by kernel_rfl,Nat.le_trans (BJ _) (by decide)⟩
theorem aw_callk (p:Nat) {k:Nat} (hk:k<3):((awS p k).call k (awB k)).2=true:=by
 obtain⟨h0,h1,h2⟩:=aw_call p
 rcases (show k=0∨k=1∨k=2 by omega) with rfl | rfl | rfl
 ·exact h0
 ·exact h1
 ·exact h2
theorem aw_donek (p:Nat) {k:Nat} (hk:k<3):(∃ d,(awN p (awS p k) k).2.1=[d]∧d.e=0)∧(awN p (awS p k) k).2.2.length=if k=0 then 1 else 0:=by
 have one:∀ l:List Dn1,l.map (fun d=>d.e)=[0]→∃ d,l=[d]∧d.e=0:=fun l h=>by
  cases l with
  | nil=>cases h
  | cons d l =>
   cases l with
   | nil=>injection h with h _;exact⟨d,rfl,h⟩
   | cons _ _=>injection h with _ h;cases h
 rcases (show k=0∨k=1∨k=2 by omega) with rfl | rfl | rfl
 ·exact⟨one _ (G5 p).1,(G5 p).2⟩
 ·exact⟨one _ (Hp p).1,(Hp p).2⟩
 ·exact⟨one _ (GW p).1,(GW p).2⟩
theorem aw_tk (p:Nat) {k:Nat} (hk:k<4):((awT p k).obey (k%2)).2=true∧((awT p k).obey (k%2)).1.collect.2.length=k%2∧(awT p k).cf.shards=2∧6=(awT p k).board.q.length*(awT p k).board.room:=by
 obtain⟨a0,a1,a2,a3⟩:=aw_obey p
 obtain⟨b0,b1,b2,b3⟩:=aw_coll p
 rcases (show k=0∨k=1∨k=2∨k=3 by omega) with rfl | rfl | rfl | rfl
 ·exact⟨a0,b0,by kernel_rfl,by kernel_rfl⟩
 ·exact⟨a1,b1,by kernel_rfl,by kernel_rfl⟩
 ·exact⟨a2,b2,by kernel_rfl,by kernel_rfl⟩
 ·exact⟨a3,b3,by kernel_rfl,by kernel_rfl⟩
theorem awRange {w:World} {xl x9:Nat} (h:w.heap[xl]?=some (.cells #[.int .i64 0,.int .i64 1,.int .i64 1,.int .i64 3,.int .i64 0,.slice none 0 0,.int .i64 0,.int .i64 0,.int .i64 2,.int .i64 1,.int .i64 0,.int .i64 0,.int .i64 2,.slice (some ⟨x9,0,none⟩) 1 1,.int .i64 0,.int .i64 0,.int .i64 5,.int .i64 1,.int .i64 0,.int .i64 0,.int .i64 2,.slice none 0 0,.int .i64 0,.int .i64 0] 31 (0,0))) {k:Nat} (hk:k<3):w.rangeAt xl (k*8) [.int .i64 (awQ k).kind,.int .i64 (awQ k).who,.int .i64 (awQ k).room,.int .i64 (awQ k).rights,.int .i64 (awQ k).track,.slice (awA k x9) (awQ k).ssrcs.length (awQ k).ssrcs.length,.int .i64 (awQ k).layer,.int .i64 (awQ k).tid]:=by
 intro j v hj
 have hj8:j<8:=(List.getElem?_eq_some_iff.1 hj).1
 rw[Ae h,← hj]
 rcases (show k=0∨k=1∨k=2 by omega) with rfl | rfl | rfl<;>rcases (show j=0∨j=1∨j=2∨j=3∨j=4∨j=5∨j=6∨j=7 by omega) with rfl | rfl | rfl | rfl | rfl | rfl | rfl | rfl<;>rfl
theorem awSS {w:World} {x9:Nat} (h:w.heap[x9]?=some (.cells #[.int .u32 9] 110 (0,0))) {k:Nat} (hk:k<3):RSl 1 Ix w (awQ k).ssrcs (.slice (awA k x9) (awQ k).ssrcs.length (awQ k).ssrcs.length):=by
 rcases (show k=0∨k=1∨k=2 by omega) with rfl | rfl | rfl
 ·exact RSl.nil
 ·refine⟨some ⟨x9,0,none⟩,1,rfl,Nat.le_refl _,fun _=>⟨x9,0,rfl,fun i hi=>?_⟩⟩
  have hi1:i<1:=hi
  obtain rfl:i=0:=by omega
  refine⟨[.int .u32 9],rfl,fun j hj=>?_,?_⟩
  ·obtain rfl:j=0:=by omega
   exact Ae h 0
  ·exact⟨rfl,by show ((9:Nat):Int)<4294967296;decide⟩
 ·exact RSl.nil
theorem TbO.leN {N:Nat→Prop} {w w':World} {o:Option Nat} {t:Option Tb} (h:TbO N w o t) (hl:Le w w'):TbO N w' o t:=by
 cases o with
 | none=>cases t with
  | none=>trivial
  | some t=>exact h.elim
 | some b=>cases t with
  | none=>exact h.elim
  | some t=>exact DY.le (t:=b) h hl
theorem scObey6 {K:Nat→Prop} {w0 wr:World} {c a p b:Nat} {C:Ct (Nat×Nat)} {n:Nat} (h:CP K w0 wr c a p b C n) (hn:n≤900) {k:Nat} (hk:k<C.cf.shards) (hna:6=C.board.q.length*C.board.room):Calls Tryz.prog 18 #[.agg #[.pointer (some ⟨c,0,none⟩),.pointer (some ⟨a,0,none⟩),.pointer (some ⟨p,0,none⟩),.pointer (some ⟨b,0,none⟩),.int .i64 6],.int .i64 (k:Int)] wr fun e w'=>e=.returned (.bool (C.obey k).2)∧ScTo K w0 wr c a p b (C.obey k).1 n w':=scObey h hn hk hna
theorem awake22 (w:World):Calls Tryz.prog 10 #[] w (Ax w (.bool true)):=by
 obtain⟨R,hR⟩:∃ R,R=Ax w (.bool true):=⟨_,rfl⟩
 rw[← hR]
 have HR:=Aa hR
 clear hR
 go_enter Tryz.func10,Tryz.ntmps10
 go_wp2_with fail
 refine (awConf w).mono ?_
 rintro e w1 ⟨rfl,hb⟩
 have HL1:=Aa (Le.mk hb)
 clear hb
 go_upto_region 2 with (refine Ak rfl 38 (.tmp 1) (.tmp 16) (cs:=[.int .i64 2,.int .i64 5,.int .i64 9,.int .i64 3,.int .i64 5,.int .i64 4,.int .i64 3,.int .i64 4]) rfl rfl rfl (by kernel_rfl) (by simp[Value.oneCell']) (heap_alloc_new _ _) rfl ?_;intro w2 hn hg;have HX1:=Aa hn;have HL2:=Aa (HL1.out.trans (((Le.refl w1).alloc _).box1 hg (Nat.le_refl _)));clear hn hg)
 go_wp2_with (refine Al rfl 38 (.tmp 1) rfl (cs:=[.int .i64 2,.int .i64 5,.int .i64 9,.int .i64 3,.int .i64 5,.int .i64 4,.int .i64 3,.int .i64 4]) _ rfl Tryz.underlying38 rfl (by kernel_rfl) HX1.out ?_)
 refine (awScene w2).mono ?_
 rintro e w3 ⟨c,g,X,rfl,hct,hl3,hz⟩
 have HSC:=Aa (show CP (fun k=>k<w2.heap.size) w2 w3 c X.ar X.pn X.bd (awS 0 0) 0 from ⟨g,X,hct,rfl,rfl,rfl,fun k hk=>⟨hz k hk,Nat.lt_of_lt_of_le hk hl3.size⟩,fun k hk=>hk,hl3,awInv⟩)
 clear hct hl3 hz HL1
 rw[scV]
 generalize X.ar=a at *
 generalize X.pn=p at *
 generalize X.bd=b at *
 go_upto_region 3 with (refine Ak rfl 46 (.tmp 4) (.tmp 22) (cs:=[.pointer (some ⟨c,0,none⟩),.pointer (some ⟨a,0,none⟩),.pointer (some ⟨p,0,none⟩),.pointer (some ⟨b,0,none⟩),.int .i64 6]) rfl rfl rfl (by kernel_rfl) (by simp[Value.oneCell']) (heap_alloc_new _ _) rfl ?_;intro w4 hn hg;have HX4:=Aa hn;have HL4:=Aa (((Le.refl w3).alloc _).box1 hg (Nat.le_refl _));clear hn hg)
 have HSC4:=Aa (HSC.out.more HL4.out)
 have HK4:=Aa (show (fun k=>k<w2.heap.size∨(w3.heap.size≤k∧k<w4.heap.size)) w3.heap.size from .inr ⟨Nat.le_refl _,Ah HX4.out⟩)
 generalize (fun k=>k<w2.heap.size∨(w3.heap.size≤k∧k<w4.heap.size))=K4 at *
 generalize w3.heap.size=x4 at *
 clear HSC HL4 HX1
 have k0:=Af HX4.out 0 (.pointer (some ⟨c,0,none⟩)) rfl w4 (Le.refl _)
 go_upto_region 6 with fail
 have HX9:=Aa (heap_alloc (o':=.cells #[.int .i64 0,.int .i64 1,.int .i64 1,.int .i64 3,.int .i64 0,.slice none 0 0,.int .i64 0,.int .i64 0,.int .i64 2,.int .i64 1,.int .i64 0,.int .i64 0,.int .i64 2,.slice (some ⟨w4.heap.size,0,none⟩) 1 1,.int .i64 0,.int .i64 0,.int .i64 5,.int .i64 1,.int .i64 0,.int .i64 0,.int .i64 2,.slice none 0 0,.int .i64 0,.int .i64 0] 31) (heap_alloc_new w4 (.cells #[.int .u32 9] 110)))
 have hz5:(w4.alloc (.cells #[.int .u32 9] 110)).heap.size=w4.heap.size+1:=by show (w4.heap.push _).size=_;rw[Array.size_push]
 have HXL:=Aa (heap_alloc_new (w4.alloc (.cells #[.int .u32 9] 110)) (.cells #[.int .i64 0,.int .i64 1,.int .i64 1,.int .i64 3,.int .i64 0,.slice none 0 0,.int .i64 0,.int .i64 0,.int .i64 2,.int .i64 1,.int .i64 0,.int .i64 0,.int .i64 2,.slice (some ⟨w4.heap.size,0,none⟩) 1 1,.int .i64 0,.int .i64 0,.int .i64 5,.int .i64 1,.int .i64 0,.int .i64 0,.int .i64 2,.slice none 0 0,.int .i64 0,.int .i64 0] 31))
 rw[hz5] at HXL
 have HL5:=Aa (((Le.refl w4).alloc (.cells #[.int .u32 9] 110)).alloc (.cells #[.int .i64 0,.int .i64 1,.int .i64 1,.int .i64 3,.int .i64 0,.slice none 0 0,.int .i64 0,.int .i64 0,.int .i64 2,.int .i64 1,.int .i64 0,.int .i64 0,.int .i64 2,.slice (some ⟨w4.heap.size,0,none⟩) 1 1,.int .i64 0,.int .i64 0,.int .i64 5,.int .i64 1,.int .i64 0,.int .i64 0,.int .i64 2,.slice none 0 0,.int .i64 0,.int .i64 0] 31))
 generalize (w4.alloc (.cells #[.int .u32 9] 110)).alloc (.cells #[.int .i64 0,.int .i64 1,.int .i64 1,.int .i64 3,.int .i64 0,.slice none 0 0,.int .i64 0,.int .i64 0,.int .i64 2,.int .i64 1,.int .i64 0,.int .i64 0,.int .i64 2,.slice (some ⟨w4.heap.size,0,none⟩) 1 1,.int .i64 0,.int .i64 0,.int .i64 5,.int .i64 1,.int .i64 0,.int .i64 0,.int .i64 2,.slice none 0 0,.int .i64 0,.int .i64 0] 31)=w5 at *
 have HSC5:=Aa (HSC4.out.more HL5.out)
 have HKL:=Aa (show K4 x4∨(w4.heap.size≤x4∧x4<w5.heap.size) from .inl HK4.out)
 have HK9:=Aa (show K4 w4.heap.size∨(w4.heap.size≤w4.heap.size∧w4.heap.size<w5.heap.size) from .inr ⟨Nat.le_refl _,Ah HX9.out⟩)
 have HKX:=Aa (show K4 (w4.heap.size+1)∨(w4.heap.size≤w4.heap.size+1∧w4.heap.size+1<w5.heap.size) from .inr ⟨Nat.le_succ _,Ah HXL.out⟩)
 have HX5:=Aa (HL5.out.heap HX4.out)
 clear hz5 HL5 HSC4 HK4 HX4 k0
 generalize hK5:(fun k=>K4 k∨(w4.heap.size≤k∧k<w5.heap.size))=K5 at HSC5
 have HKS:=Aa (show K5 x4∧K5 w4.heap.size∧K5 (w4.heap.size+1) by rw[← hK5];exact⟨HKL.out,HK9.out,HKX.out⟩)
 clear hK5 HKL HK9 HKX
 generalize w4.heap.size+1=xl at *
 generalize w4.heap.size=x9 at *
 go_wp2_with fail
 go_loopw [7] (fun i wr=>∃ (k:Nat) (K:Nat→Prop) (p0:Nat),k≤3∧i=.int .i64 k∧Hd (K x4∧K x9∧K xl)∧Hd (CP K w2 wr c a p b (awS p0 k) k)∧Hd (wr.heap[x4]?=some (.cells #[.pointer (some ⟨c,0,none⟩),.pointer (some ⟨a,0,none⟩),.pointer (some ⟨p,0,none⟩),.pointer (some ⟨b,0,none⟩),.int .i64 6] 46 (0,0)))∧Hd (wr.heap[x9]?=some (.cells #[.int .u32 9] 110 (0,0)))∧Hd (wr.heap[xl]?=some (.cells #[.int .i64 0,.int .i64 1,.int .i64 1,.int .i64 3,.int .i64 0,.slice none 0 0,.int .i64 0,.int .i64 0,.int .i64 2,.int .i64 1,.int .i64 0,.int .i64 0,.int .i64 2,.slice (some ⟨x9,0,none⟩) 1 1,.int .i64 0,.int .i64 0,.int .i64 5,.int .i64 1,.int .i64 0,.int .i64 0,.int .i64 2,.slice none 0 0,.int .i64 0,.int .i64 0] 31 (0,0)))) (fun i _=>3 - (intOf i).toNat)
 case atStart=>exact⟨0,K5,0,by omega,rfl,HKS,HSC5,HX5,HX9,HXL⟩
 case round =>
  clear HX5 HX9 HXL HSC5 HKS
  obtain⟨k,K,p0,hk,rfl,HKS,HSC,HX,HX9,HXL⟩:=hrel
  rcases Nat.lt_or_ge k 3 with hlt | hge
  ·have hltI:(k:Int)<3:=by omega
   have q1:IntKind.u64.wrap (k:Int)=(k:Int):=IntWalk.u64_in _ (by omega)
   have q2:IntKind.u64.wrap ((k:Int)+10)=((k+10:Nat):Int):=by rw[IntWalk.u64_in _ (by omega)];simp
   have q3:IntKind.i64.wrap ((k:Int)+1)=((k+1:Nat):Int):=by rw[IntWalk.i64_in _ (by omega)];simp
   have HRG:=Aa (awRange HXL.out hlt)
   have HPT:=Aa (reqPutE (k+10) (awQ k) (awA k x9) (awQ k).ssrcs.length (awQ k).ssrcs.length wr (by omega) (awSS HX9.out hlt))
   go_wp2_with (refine wpList_load_mid rfl 31 (.tmp 43) rfl xl (k*8) rfl [.int .i64 (awQ k).kind,.int .i64 (awQ k).who,.int .i64 (awQ k).room,.int .i64 (awQ k).rights,.int .i64 (awQ k).track,.slice (awA k x9) (awQ k).ssrcs.length (awQ k).ssrcs.length,.int .i64 (awQ k).layer,.int .i64 (awQ k).tid] _ HRG.out Tryz.underlying31 rfl (by kernel_rfl) ?_)
   refine HPT.out.mono ?_
   rintro e w6 ⟨v,rfl,ho,hb⟩
   obtain⟨ep1,ep2,ep3⟩:=aw_put hlt
   rw[ep1] at ho
   rw[ep2]
   obtain⟨A,cap,hv,hr6,hn6,hl6⟩:=BytP.own ho (Le.mk hb)
   injection hv with hv
   subst hv
   have HR6:=Aa hr6
   have HN6:=Aa hn6
   have HB6:=Aa ep3
   have HSC6:=Aa (HSC.out.le hl6)
   have HX6:=Aa (hl6.heap HX.out)
   have HX96:=Aa (hl6.heap HX9.out)
   have HXL6:=Aa (hl6.heap HXL.out)
   clear hr6 hn6 hl6 ho hb ep1 ep2 ep3 HSC HX HX9 HXL HRG HPT
   have k0:=Af HX6.out 0 (.pointer (some ⟨c,0,none⟩)) rfl w6 (Le.refl _)
   have HCK:=Aa (aw_callk p0 hlt)
   go_wp2_with fail
   refine (scCall HSC6.out k (awB k) A cap HR6.out HN6.out HB6.out).mono ?_
   rintro e w7 ⟨rfl,hs7,hf7⟩
   rw[HCK.out]
   have HSC7:=Aa hs7
   have HX7:=Aa (hf7.heap HX6.out (fun e=>e HKS.out.1))
   have HX97:=Aa (hf7.heap HX96.out (fun e=>e HKS.out.2.1))
   have HXL7:=Aa (hf7.heap HXL6.out (fun e=>e HKS.out.2.2))
   clear hs7 hf7 k0 HSC6 HX6 HX96 HXL6 HCK
   have k0:=Af HX7.out 0 (.pointer (some ⟨c,0,none⟩)) rfl w7 (Le.refl _)
   go_wp2_with fail
   refine (Fo HSC7.out (by omega)).mono ?_
   rintro e w8 ⟨p1,dv,rv,K',rfl,hkk,hd,hrr,hs8,hf8⟩
   have hS:awS p0 k=awS p1 k:=awS_q _ _ (by omega)
   rw[hS] at hd hrr hs8
   obtain⟨⟨d,hd1,hd2⟩,hrl⟩:=aw_donek p1 hlt
   have hd1':((((awS p1 k).call k (awB k)).1).accept (fun s=>(p1,s))).2.1=[d]:=hd1
   rw[hd1'] at hd
   rcases hd with ⟨h0,_⟩ | ⟨d',gd,Ad,cd,e1,e2,hgd,hdc,_⟩
   ·cases h0
   injection e1 with e1 _
   subst e1
   subst e2
   have kd:=Af hdc 10 (.int .i64 0) (by rw[dnC,hd2];rfl) w8 (Le.refl _)
   obtain⟨Ar,cr,hv,_,_,_⟩:=hrr.cells
   rw[List.length_map] at hv
   have hrl':((((awS p1 k).call k (awB k)).1).accept (fun s=>(p1,s))).2.2.length=if k=0 then 1 else 0:=hrl
   rw[hrl'] at hv
   subst hv
   have HSC8:=Aa (show CP K' w2 w8 c a p b (awS p1 (k+1)) (k+1) from hs8)
   have HX8:=Aa (hf8.heap HX7.out (fun e=>e HKS.out.1))
   have HX98:=Aa (hf8.heap HX97.out (fun e=>e HKS.out.2.1))
   have HXL8:=Aa (hf8.heap HXL7.out (fun e=>e HKS.out.2.2))
   have HKS':=Aa (show K' x4∧K' x9∧K' xl from ⟨hkk _ HKS.out.1,hkk _ HKS.out.2.1,hkk _ HKS.out.2.2⟩)
   clear hs8 hf8 k0 HSC7 HX7 HX97 HXL7 hrr hrl hrl' hd1 hd1' hd2 hS hkk HKS hdc hgd
   by_cases hk0:k=0
   ·have z0:((k:Int)==0)=true:=by rw[beq_iff_eq];omega
    have z1:¬ (0:Int)<(k:Int):=by omega
    have hL1:(if k=0 then 1 else 0)=1:=if_pos hk0
    rw[hL1]
    clear hL1 hk0
    go_wp2_with fail
    exact⟨⟨k+1,K',p1,hlt,rfl,HKS',HSC8,HX8,HX98,HXL8⟩,by simp only[intOf];omega⟩
   ·have z0:((k:Int)==0)=false:=by rw[beq_eq_false_iff_ne];omega
    have z1:(0:Int)<(k:Int):=by omega
    have hL1:(if k=0 then 1 else 0)=0:=if_neg hk0
    rw[hL1]
    clear hL1 hk0
    go_wp2_with fail
    exact⟨⟨k+1,K',p1,hlt,rfl,HKS',HSC8,HX8,HX98,HXL8⟩,by simp only[intOf];omega⟩
  ·have hgeI:¬ (k:Int)<3:=by omega
   obtain rfl:k=3:=by omega
   clear HX9 HXL hgeI
   have HKX:=Aa HKS.out.1
   have HSCT:=Aa (show CP K w2 wr c a p b (awT p0 0) 3 from HSC.out)
   clear HSC HKS
   go_wp2_with fail
   generalize wr=wq at *
   go_loopw [6,12] (fun z6 i wr=>∃ (k d:Nat) (K:Nat→Prop),k≤4∧i=.int .i64 k∧z6=.int .i64 d∧Hd (d=k / 2)∧Hd (K x4)∧Hd (CP K w2 wr c a p b (awT p0 k) 3)∧Hd (wr.heap[x4]?=some (.cells #[.pointer (some ⟨c,0,none⟩),.pointer (some ⟨a,0,none⟩),.pointer (some ⟨p,0,none⟩),.pointer (some ⟨b,0,none⟩),.int .i64 6] 46 (0,0)))) (fun _ i _=>4 - (intOf i).toNat)
   case atStart=>exact⟨0,0,K,by omega,rfl,rfl,Aa rfl,HKX,HSCT,HX⟩
   case round =>
    clear HX HSCT HKX
    obtain⟨k,d,K1,hk,rfl,rfl,HD,HKX,HSC,HX⟩:=hrel
    generalize wr=wq at *
    rcases Nat.lt_or_ge k 4 with hlt | hge
    ·have hltI:(k:Int)<4:=by omega
     obtain⟨ho,hc,hsh,hna⟩:=aw_tk p0 hlt
     obtain⟨r,hr⟩:∃ r:Nat,r=k%2:=⟨_,rfl⟩
     rw[← hr] at ho hc
     have hd:=HD.out
     have q1:((k:Int).tmod 2)=(r:Int):=by rw[Int.tmod_eq_emod_of_nonneg (by omega)];omega
     have q2:((k:Int).tdiv 2)=(d:Int):=by rw[Int.tdiv_eq_ediv_of_nonneg (by omega)];omega
     have q3:IntKind.i64.wrap (r:Int)=(r:Int):=IntWalk.i64_in _ (by omega)
     have q4:IntKind.i64.wrap (d:Int)=(d:Int):=IntWalk.i64_in _ (by omega)
     obtain⟨s,hs⟩:∃ s:Nat,s=d+r:=⟨_,rfl⟩
     have q5:IntKind.i64.wrap ((d:Int)+(r:Int))=(s:Int):=by rw[IntWalk.i64_in _ (by omega)];omega
     have HSS:=Aa (show s=(k+1) / 2 by omega)
     have z9:(k=0→s=0):=by omega
     have HZ9:=Aa z9
     clear z9
     have q6:IntKind.i64.wrap ((k:Int)+1)=((k+1:Nat):Int):=by rw[IntWalk.i64_in _ (by omega)];simp
     have HOB:=Aa (scObey6 HSC.out (by omega) (k:=r) (by rw[hsh];omega) hna)
     have HO:=Aa ho
     have HC:=Aa hc
     have HRR:=Aa hr
     clear ho hc hsh hna hd hr hs
     go_wp2_with (refine Al rfl 46 (.tmp 4) rfl (cs:=[.pointer (some ⟨c,0,none⟩),.pointer (some ⟨a,0,none⟩),.pointer (some ⟨p,0,none⟩),.pointer (some ⟨b,0,none⟩),.int .i64 6]) _ rfl Tryz.underlying46 rfl (by kernel_rfl) HX.out ?_)
     refine HOB.out.mono ?_
     rintro e w8 ⟨rfl,hs8,hf8⟩
     rw[HO.out]
     have HSC8:=Aa hs8
     have HX8:=Aa (hf8.heap HX.out (fun e=>e HKX.out))
     clear hs8 hf8 HSC HX HOB
     have k0:=Af HX8.out 0 (.pointer (some ⟨c,0,none⟩)) rfl w8 (Le.refl _)
     go_wp2_with fail
     refine (F9 HSC8.out (by omega)).mono ?_
     rintro e w9 ⟨rv,K2,rfl,hkk,hrr,hs9,hf9⟩
     obtain⟨Ar,cr,hv,_,_,_⟩:=hrr.cells
     rw[List.length_map,HC.out] at hv
     subst hv
     have HSC9:=Aa (show CP K2 w2 w9 c a p b (awT p0 (k+1)) 3 from by rw[awT,← HRR.out];exact hs9)
     have HX9:=Aa (hf9.heap HX8.out (fun e=>e HKX.out))
     have HKY:=Aa (hkk _ HKX.out)
     clear hs9 hf9 hrr hkk k0 HSC8 HX8 HKX HC HO
     by_cases hk0:k=0
     ·have z0:((k:Int)==0)=true:=by rw[beq_iff_eq];omega
      have z1:((s:Int) !=0)=false:=by rw[bne_eq_false_iff_eq];have:=HZ9.out hk0;omega
      clear hk0
      go_wp2_with fail
      go_roundw
      case rel=>(repeat apply Exists.intro);exact⟨⟨k+1,s,K2,hlt,rfl,rfl,HSS,HKY,HSC9,HX9⟩,rfl⟩
      case measure=>simp[intOf];omega
     ·have z0:((k:Int)==0)=false:=by rw[beq_eq_false_iff_ne];omega
      clear hk0
      go_wp2_with fail
      go_roundw
      case rel=>(repeat apply Exists.intro);exact⟨⟨k+1,s,K2,hlt,rfl,rfl,HSS,HKY,HSC9,HX9⟩,rfl⟩
      case measure=>simp[intOf];omega
    ·have hgeI:¬ (k:Int)<4:=by omega
     obtain rfl:k=4:=by omega
     obtain rfl:d=2:=HD.out
     obtain⟨n1,n2,n3,n4⟩:=aw_end p0
     have HID:=Aa (scIdle HSC.out)
     rw[n1,n2] at HID
     obtain⟨o,N,ht,hto,hN⟩:=Fr HSC.out
     have HTB:=Aa ht
     have HTO:=Aa hto
     have HLV:=Aa (fun W (hl:Le wq W)=>scLive (HSC.out.le hl))
     rw[n4] at HLV
     have HE:=Aa n3
     clear n1 n2 n3 n4 ht hto hN hgeI
     have k0:=Af HX.out 0 (.pointer (some ⟨c,0,none⟩)) rfl wq (Le.refl _)
     go_wp2_with fail
     refine HID.out.mono ?_
     rintro e w8 ⟨rfl,hb8⟩
     have HL8:=Aa (Le.mk hb8)
     have HX8:=Aa ((Le.mk hb8).heap HX.out)
     clear hb8 k0
     have k0:=Af HX8.out 0 (.pointer (some ⟨c,0,none⟩)) rfl w8 (Le.refl _)
     have HSC8:=Aa (HSC.out.le HL8.out)
     obtain⟨o,N,ht,hto,hN⟩:=Fr HSC8.out
     go_wp2_with fail
     refine ht.mono ?_
     rintro e w9 ⟨rfl,hb9⟩
     have hto9:=TbO.leN hto (Le.mk hb9)
     go_wp2_with fail
     refine (CX hto9).mono ?_
     rintro e w10 ⟨rfl,hb10⟩
     have HL10:=Aa (HL8.out.trans ((Le.mk hb9).trans (Le.mk hb10)))
     have HX10:=Aa (((Le.mk hb9).trans (Le.mk hb10)).heap HX8.out)
     have k1:=Af HX10.out 1 (.pointer (some ⟨a,0,none⟩)) rfl w10 (Le.refl _)
     rw[HE.out]
     clear hb9 hb10 k0
     go_wp2_with fail
     refine (HLV.out w10 HL10.out).mono ?_
     rintro e w11 ⟨rfl,hb11⟩
     have hl11:=HSC.out.le0.trans (HL10.out.trans (Le.mk hb11))
     have HL11:=Aa (HL2.out.trans hl11)
     clear hb11 hl11 k1
     go_wp2_with fail
     rw[HR.out]
     exact⟨rfl,HL11.out.out⟩
section
open Go.RowKit Go.ChangeShapes Go.WideShapes Go.Deep
section
variable {H:Type} {enc:TypeId×Value→H} {P:Program} {w:World} {base:Nat} {spare:Nat→Bool} {held:Bool}
theorem Ck {α:Type} {size:Nat} {R:Rd α} {t e:TypeId} {fuel:Nat} {v:Value} {x:DataW H×List MemPlace} (ht:P.underlying t=some (.slice e)) (hC:P.cellsOf e=size) (hsz:0<size)
  (elem:∀ n cs y,DataW.trod enc P w base spare held n e cs=some y→∃ a:α,R w a cs) (h:DataW.trod enc P w base spare held fuel t [v]=some x):∃ l:List α,RSl size R w l v:=by
 rcases open_slice ht h with ⟨hcs,_⟩ | ⟨a,len,cap,m,n,D,Pl,hcs,_,hl,_,hm,_,hi⟩
 ·simp at hcs
  subst hcs
  exact⟨[],RSl.nil⟩
 ·simp at hcs
  subst hcs
  have hlm:len≤m:=by rw[hm];split<;>omega
  have hall:∀ i:Fin len,∃ p:α×List Value,p.2.length=size∧(∀ j,j<size→w.cell? ((a.add (i.1*size)).add j)=p.2[j]?)∧R w p.1 p.2:=by
   intro i
   obtain⟨cs,hc,htr⟩:=hi i.1 (by omega)
   rw[hC] at hc
   obtain⟨_,hcl,hat⟩:=World.cells?_some hc
   obtain⟨b,hb⟩:=elem n cs _ htr
   exact⟨(b,cs),hcl,fun j hj=>hat j hj,hb⟩
  let f:Fin len→α×List Value:=fun i=>Classical.choose (hall i)
  have hf:∀ i:Fin len,(f i).2.length=size∧(∀ j,j<size→w.cell? ((a.add (i.1*size)).add j)=(f i).2[j]?)∧R w (f i).1 (f i).2:=fun i=>Classical.choose_spec (hall i)
  refine⟨List.ofFn fun i=>(f i).1,some a,cap,by simp,by simpa using hl,fun hne=>?_⟩
  have hpos:0<len:=by
   rcases Nat.eq_zero_or_pos len with h0 | h0
   ·subst h0;simp at hne
   ·exact h0
  obtain⟨b,off,spot⟩:=a
  have hspot:spot=none:=by
   obtain⟨h1,h2,_⟩:=hf ⟨0,hpos⟩
   have h3:=h2 0 hsz
   have h4:((f ⟨0,hpos⟩).2)[0]?=some (((f ⟨0,hpos⟩).2)[0]'(by omega)):=List.getElem?_eq_getElem _
   rw[h4] at h3
   have:=World.cell?_spot h3
   simpa[Addr.add] using this
  subst hspot
  refine⟨b,off,rfl,fun i hi'=>?_⟩
  have hi2:i<len:=by simpa using hi'
  obtain⟨h1,h2,h3⟩:=hf ⟨i,hi2⟩
  refine⟨(f ⟨i,hi2⟩).2,h1,fun j hj=>?_,by simpa using h3⟩
  have:=h2 j hj
  rwa [BG,BG] at this
theorem AX {t:TypeId} {k:IntKind} {n:Nat} {cs:List Value} {x:DataW H×List MemPlace} (ht:P.underlying t=some (.int k)) (h:DataW.trod enc P w base spare held n t cs=some x):∃ a:Int,cs=[.int k a]∧(Lit.int k a).wf=true:=by
 obtain⟨a,e,_,hw⟩:=DataW.trod_int ht h
 exact⟨a,e,hw⟩
theorem u8_open {t:TypeId} {n:Nat} {cs:List Value} {x:DataW H×List MemPlace} (ht:P.underlying t=some (.int .u8)) (h:DataW.trod enc P w base spare held n t cs=some x):∃ a:UInt8,RU8 w a cs:=by
 obtain⟨a,rfl,hw⟩:=AX ht h
 have hb:0≤a∧a≤255:=by simpa[Lit.wf,IntKind.min,IntKind.max,IntKind.signed,IntKind.bits] using hw
 refine⟨UInt8.ofNat a.toNat,?_⟩
 have:((UInt8.ofNat a.toNat).toNat:Int)=a:=by rw[UInt8.toNat_ofNat'];omega
 show[Value.int .u8 a]=[Value.int .u8 ((UInt8.ofNat a.toNat).toNat:Int)]
 rw[this]
end
theorem wf_u64 {a:Int} (h:(Lit.int .u64 a).wf=true):∃ n:Nat,a=n∧(n:Int)<18446744073709551616:=by
 have hb:0≤a∧a≤18446744073709551615:=by simpa[Lit.wf,IntKind.min,IntKind.max,IntKind.signed,IntKind.bits] using h
 exact⟨a.toNat,by omega,by omega⟩
theorem wf_i64 {a:Int} (h:(Lit.int .i64 a).wf=true):-9223372036854775808≤a∧a≤9223372036854775807:=by
 simpa[Lit.wf,IntKind.min,IntKind.max,IntKind.signed,IntKind.bits] using h
theorem wf_u32 {a:Int} (h:(Lit.int .u32 a).wf=true):∃ n:Nat,a=n∧n<4294967296:=by
 have hb:0≤a∧a≤4294967295:=by simpa[Lit.wf,IntKind.min,IntKind.max,IntKind.signed,IntKind.bits] using h
 exact⟨a.toNat,by omega,by omega⟩
theorem Ig {a:Int} (h:(Lit.int .u8 a).wf=true):∃ n:Nat,a=n∧n<256:=by
 have hb:0≤a∧a≤255:=by simpa[Lit.wf,IntKind.min,IntKind.max,IntKind.signed,IntKind.bits] using h
 exact⟨a.toNat,by omega,by omega⟩
end
section
open Go.RowKit Go.ChangeShapes Go.WideShapes Go.Deep
section
variable {H:Type} {enc:TypeId×Value→H} {P:Program} {w:World} {base:Nat} {spare:Nat→Bool} {held:Bool}
theorem GG {e:TypeId} {fs:Array Field} {n:Nat} {cs:List Value} {x:DataW H×List MemPlace} (he:P.underlying e=some (.struct fs)) (h:DataW.trod enc P w base spare held n e cs=some x) :
  cs.length=P.cellsOf e∧∃ m,∀ (i:Nat) (t:TypeId) (o:Nat),(fs[i]?.map fun f=>(f.type,f.offset))=some (t,o)→∃ y,DataW.trod enc P w base spare held m t ((cs.drop o).take (P.cellsOf t))=some y:=by
 obtain⟨xs,m,_,_,hlen,hxl,hf⟩:=DataW.trod_struct he h
 refine⟨hlen,m,fun i t o hi=>?_⟩
 obtain⟨f,hif,e⟩:=Option.map_eq_some_iff.1 hi
 injection e with e1 e2
 subst e1 e2
 have hil:i<fs.size:=(Array.getElem?_eq_some_iff.1 hif).1
 have h1:=hf i f hif
 rw[List.getElem?_eq_getElem (by omega)] at h1
 exact⟨_,h1⟩
theorem E6 {t e:TypeId} {fuel:Nat} {v:Value} {x:DataW H×List MemPlace} (ht:P.underlying t=some (.slice e)) (h:DataW.trod enc P w base spare held fuel t [v]=some x):∀ A n c,v=.slice A n c→n≤9223372036854775807∧(A=none→n=0∧c=0):=by
 intro A n c hv
 rcases open_slice ht h with ⟨hcs,_⟩ | ⟨a,len,cap,m,k,D,Pl,hcs,_,hlc,hcm,_⟩
 ·simp at hcs
  rw[hv] at hcs
  injection hcs with e1 e2 e3
  exact⟨by omega,fun _=>⟨e2,e3⟩⟩
 ·simp at hcs
  rw[hv] at hcs
  injection hcs with e1 e2 e3
  have:cap≤9223372036854775807:=by simpa[maxLen] using hcm
  exact⟨by omega,fun e=>by rw[e1] at e;cases e⟩
end
section
variable {H:Type} {enc:TypeId×Value→H} {w:World} {base:Nat} {spare:Nat→Bool} {held:Bool} {d:DataW H} {ps:List MemPlace}
theorem u32_openA (n:Nat) (cs:List Value) (y:DataW H×List MemPlace) (h:DataW.trod enc Tryz.prog w base spare held n 110 cs=some y):∃ p:Nat,Ix w p cs:=by
 obtain⟨a,rfl,hw⟩:=AX Tryz.underlying110 h
 obtain⟨x,rfl,hx⟩:=wf_u32 hw
 exact⟨x,rfl,by omega⟩
theorem Ic {A:Option Addr} {n c:Nat} (h:DataW.Trod enc Tryz.prog w base spare held 25 (.slice A n c) d ps):∃ l,RSl 1 RU8 w l (.slice A n c)∧n≤9223372036854775807∧(A=none→n=0∧c=0):=by
 obtain⟨fuel,hf⟩:=h
 obtain⟨l,hl⟩:=Ck (size:=1) (R:=RU8) Tryz.underlying25 (by kernel_rfl) (by decide) (fun n cs y h=>u8_open Tryz.underlying5 h) hf
 exact⟨l,hl,E6 Tryz.underlying25 hf _ _ _ rfl⟩
theorem act_open (n:Nat) (cs:List Value) (y:DataW H×List MemPlace) (h:DataW.trod enc Tryz.prog w base spare held n 51 cs=some y):∃ a:Act,RAct w a cs:=by
 obtain⟨hl,m,hf⟩:=GG Tryz.underlying51 h
 rw[show Tryz.prog.cellsOf 51=12 from by kernel_rfl] at hl
 match cs,hl with
 | [c0,c1,c2,c3,c4,c5,c6,c7,c8,c9,c10,c11],_ =>
  obtain⟨y0,h0⟩:=hf 0 3 0 rfl
  obtain⟨y1,h1⟩:=hf 1 28 1 rfl
  obtain⟨y2,h2⟩:=hf 2 31 2 rfl
  obtain⟨y3,h3⟩:=hf 3 25 10 rfl
  obtain⟨y4,h4⟩:=hf 4 3 11 rfl
  rw[show Tryz.prog.cellsOf 3=1 from by kernel_rfl] at h0 h4
  rw[show Tryz.prog.cellsOf 28=1 from by kernel_rfl] at h1
  rw[show Tryz.prog.cellsOf 31=8 from by kernel_rfl] at h2
  rw[show Tryz.prog.cellsOf 25=1 from by kernel_rfl] at h3
  simp only[List.drop_zero,List.drop_succ_cons,List.take_succ_cons,List.take_zero] at h0 h1 h2 h3 h4
  obtain⟨_,m',hf'⟩:=GG Tryz.underlying31 h2
  obtain⟨z0,k0⟩:=hf' 0 3 0 rfl
  obtain⟨z1,k1⟩:=hf' 1 3 1 rfl
  obtain⟨z2,k2⟩:=hf' 2 3 2 rfl
  obtain⟨z3,k3⟩:=hf' 3 3 3 rfl
  obtain⟨z4,k4⟩:=hf' 4 3 4 rfl
  obtain⟨z5,k5⟩:=hf' 5 29 5 rfl
  obtain⟨z6,k6⟩:=hf' 6 3 6 rfl
  obtain⟨z7,k7⟩:=hf' 7 3 7 rfl
  rw[show Tryz.prog.cellsOf 3=1 from by kernel_rfl] at k0 k1 k2 k3 k4 k6 k7
  rw[show Tryz.prog.cellsOf 29=1 from by kernel_rfl] at k5
  simp only[List.drop_zero,List.drop_succ_cons,List.take_succ_cons,List.take_zero] at k0 k1 k2 k3 k4 k5 k6 k7
  obtain⟨a0,e0,w0⟩:=AX Tryz.underlying3 h0
  obtain⟨a1,e1,w1⟩:=AX Tryz.underlying28 h1
  obtain⟨i1,rfl,l1⟩:=wf_u64 w1
  obtain⟨b0,f0,_⟩:=AX Tryz.underlying3 k0
  obtain⟨b1,f1,_⟩:=AX Tryz.underlying3 k1
  obtain⟨b2,f2,_⟩:=AX Tryz.underlying3 k2
  obtain⟨b3,f3,_⟩:=AX Tryz.underlying3 k3
  obtain⟨b4,f4,_⟩:=AX Tryz.underlying3 k4
  obtain⟨ss,g5⟩:=Ck (size:=1) (R:=Ix) Tryz.underlying29 (by kernel_rfl) (by decide) u32_openA k5
  obtain⟨b6,f6,_⟩:=AX Tryz.underlying3 k6
  obtain⟨b7,f7,_⟩:=AX Tryz.underlying3 k7
  obtain⟨rw_,g10⟩:=Ck (size:=1) (R:=RU8) Tryz.underlying25 (by kernel_rfl) (by decide) (fun n cs y h=>u8_open Tryz.underlying5 h) h3
  obtain⟨a4,e4,w4⟩:=AX Tryz.underlying3 h4
  have w4:=wf_i64 w4
  simp only[List.cons.injEq,and_true] at e0 e1 e4 f0 f1 f2 f3 f4 f6 f7
  subst e0 e1 e4 f0 f1 f2 f3 f4 f6 f7
  have g5':=g5
  obtain⟨A1,n1,rfl,_⟩:=g5'
  have g10':=g10
  obtain⟨A2,n2,rfl,_⟩:=g10'
  exact⟨⟨a0,i1,⟨b0,b1,b2,b3,b4,b6,b7,ss⟩,rw_,a4⟩,A1,n1,A2,n2,rfl,g5,g10,(E6 Tryz.underlying25 h3 _ _ _ rfl).2,(by show i1<18446744073709551616;omega),w4.1,w4.2⟩
theorem open_acts {A:Option Addr} {n c:Nat} (h:DataW.Trod enc Tryz.prog w base spare held 24 (.slice A n c) d ps):∃ l,RSl 12 RAct w l (.slice A n c)∧n≤9223372036854775807:=by
 obtain⟨fuel,hf⟩:=h
 obtain⟨l,hl⟩:=Ck (size:=12) (R:=RAct) Tryz.underlying24 (by kernel_rfl) (by decide) act_open hf
 exact⟨l,hl,(E6 Tryz.underlying24 hf _ _ _ rfl).1⟩
theorem open_size {r:Reach} {b0:Nat} {v:Value} (hv:Value.okWide Tryz.prog w r b0 23 v) (h:DataW.Trod enc Tryz.prog w base spare held 23 v d ps):∃ z:Sz,v=szV z∧z.Ok:=by
 obtain⟨cs,rfl,hsz⟩:=okWide_struct Tryz.underlying23 hv
 obtain⟨l⟩:=cs
 obtain⟨fuel,hf0⟩:=h
 have hf0:DataW.trod enc Tryz.prog w base spare held fuel 23 l=some (d,ps):=hf0
 obtain⟨hl,m,hf⟩:=GG Tryz.underlying23 hf0
 rw[show Tryz.prog.cellsOf 23=6 from by kernel_rfl] at hl
 match l,hl with
 | [c0,c1,c2,c3,c4,c5],_ =>
  obtain⟨y0,h0⟩:=hf 0 5 0 rfl
  obtain⟨y1,h1⟩:=hf 1 5 1 rfl
  obtain⟨y2,h2⟩:=hf 2 5 2 rfl
  obtain⟨y3,h3⟩:=hf 3 5 3 rfl
  obtain⟨y4,h4⟩:=hf 4 5 4 rfl
  obtain⟨y5,h5⟩:=hf 5 5 5 rfl
  rw[show Tryz.prog.cellsOf 5=1 from by kernel_rfl] at h0 h1 h2 h3 h4 h5
  simp only[List.drop_zero,List.drop_succ_cons,List.take_succ_cons,List.take_zero] at h0 h1 h2 h3 h4 h5
  obtain⟨a0,e0,w0⟩:=AX Tryz.underlying5 h0
  obtain⟨a1,e1,w1⟩:=AX Tryz.underlying5 h1
  obtain⟨a2,e2,w2⟩:=AX Tryz.underlying5 h2
  obtain⟨a3,e3,w3⟩:=AX Tryz.underlying5 h3
  obtain⟨a4,e4,w4⟩:=AX Tryz.underlying5 h4
  obtain⟨a5,e5,w5⟩:=AX Tryz.underlying5 h5
  obtain⟨n0,rfl,l0⟩:=Ig w0
  obtain⟨n1,rfl,l1⟩:=Ig w1
  obtain⟨n2,rfl,l2⟩:=Ig w2
  obtain⟨n3,rfl,l3⟩:=Ig w3
  obtain⟨n4,rfl,l4⟩:=Ig w4
  obtain⟨n5,rfl,l5⟩:=Ig w5
  simp only[List.cons.injEq,and_true] at e0 e1 e2 e3 e4 e5
  subst e0 e1 e2 e3 e4 e5
  exact⟨⟨n0,n1,n2,n3,n4,n5⟩,rfl,⟨l0,l1,l2,l3,l4,l5⟩⟩
end
end
end Go.Proofs.YtmcndlofaanjiaaGreat
