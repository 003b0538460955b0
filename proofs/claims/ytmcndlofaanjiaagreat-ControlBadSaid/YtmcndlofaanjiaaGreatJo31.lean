/- Texts of one claim, laid together: Ded2 CtP -/
import Derived.Test.YtmcndlofaanjiaaGreatJo30
import Derived.Test.YtmcndlofaanjiaaGreatJo24
import Derived.Test.YtmcndlofaanjiaaGreatJo25
import Derived.Test.YtmcndlofaanjiaaGreatJo18
import Derived.Test.YtmcndlofaanjiaaGreatJo19
/- dedup: End,Start,New. -/
namespace Go.Proofs.YtmcndlofaanjiaaGreat
open Go.RowKit
set_option linter.unusedVariables false
set_option maxRecDepth 100000
set_option maxHeartbeats 8000000
section
variable {M M':Nat→Prop} {w w':World} {d mp:Nat} {ov:Value} {dd:Dd}
theorem DdB.nodup (h:DdB M w d mp ov dd):dd.l.Pairwise fun x y=>x.1≠y.1:=by
 have h1:=h.hM.keys
 rw[List.map_map,List.pairwise_map] at h1
 exact h1.imp fun {a b} hab e=>hab (by show Value.int .u64 _=Value.int .u64 _;rw[e])
theorem dd_split {l:List (Nat×Option (List UInt8))} {id:Nat} {a:Option (List UInt8)} (hn:l.Pairwise fun x y=>x.1≠y.1) (hm:(id,a)∈l):∃ l1 l2,l=l1++(id,a)::l2∧∀ c:Option (List UInt8),(l.map fun x=>if x.1=id then (id,c) else x)=l1++(id,c)::l2:=by
 obtain⟨l1,l2,rfl⟩:=List.append_of_mem hm
 refine⟨l1,l2,rfl,fun c=>?_⟩
 obtain⟨h1,h2,h3⟩:=List.pairwise_append.1 hn
 obtain⟨h4,_⟩:=List.pairwise_cons.1 h2
 rw[List.map_append,List.map_cons,if_pos rfl]
 congr 1
 ·refine (List.map_congr_left fun x hx=>?_).trans (List.map_id _)
  rw[if_neg (h3 x hx _ (List.mem_cons_self ..))];rfl
 ·congr 1
  refine (List.map_congr_left fun x hx=>?_).trans (List.map_id _)
  rw[if_neg (fun e=>h4 x hx e.symm)];rfl
def DdEndP (M:Nat→Prop) (w:World) (d mp:Nat) (ov:Value) (dd:Dd) (id:Nat) (b:List UInt8) (e:Ending) (w':World):Prop :=
 e=.returned (.int .i64 (dd.end_ id b).2)∧DdB M w' d mp ov (dd.end_ id b).1∧Fp M w w'
theorem ddEnd (h:DdB M w d mp ov dd) (id:Nat) (hid:id<18446744073709551616) (b:List UInt8) :
  Calls Tryz.prog 125 #[.pointer (some ⟨d,0,none⟩),.int .u64 id,.string (str b)] w (DdEndP M w d mp ov dd id b):=by
 have c2:=h.c2
 have hlk:=(h.look hid).1
 have H:=Aa h
 obtain⟨R,hR⟩:∃ R,R=DdEndP M w d mp ov dd id b:=⟨_,rfl⟩
 rw[← hR]
 have HR:=Aa hR
 clear hR h
 go_enter Tryz.func125,Tryz.ntmps125
 cases hf:dd.find id with
 | none =>
  rw[ddV,hf] at hlk
  have hlk2:(Instr.lookup 288 (.map (some mp)) (.int .u64 id) true).run Tryz.prog w=.ok (.tuple #[.agg #[.string (str []),.bool false],.bool false]) w:=hlk
  have HF:=Aa hf
  clear hf hlk
  go_wp2_with (refine Ak rfl 286 (.tmp 7) (.tmp 18) rfl (cs:=[.string (str []),.bool false]) (old:=[.string ByteArray.empty,.bool false]) rfl rfl (by kernel_rfl) (by simp[Value.oneCell']) (heap_alloc_new _ _) rfl ?_;intro w3 h3 hg3;have H3:=Aa h3;have HL3:=Aa (show Le w w3 from ((Le.refl w).alloc _).box1 hg3 (Nat.le_refl _));clear h3 hg3)
  rw[HR.out]
  have e1:dd.end_ id b=(dd,21):=by rw[Dd.end_,HF.out]
  exact⟨by rw[e1];rfl,by rw[e1];exact H.out.le HL3.out,Fp.of_le HL3.out⟩
 | some a =>
  rw[ddV,hf] at hlk
  have HF:=Aa hf
  clear hf
  cases a with
  | some a =>
   have hlk2:(Instr.lookup 288 (.map (some mp)) (.int .u64 id) true).run Tryz.prog w=.ok (.tuple #[.agg #[.string (str a),.bool true],.bool true]) w:=hlk
   clear hlk
   generalize str a=S at *
   go_upto_region 4 with (refine Ak rfl 286 (.tmp 7) (.tmp 18) rfl (cs:=[.string S,.bool true]) (old:=[.string ByteArray.empty,.bool false]) rfl rfl (by kernel_rfl) (by simp[Value.oneCell']) (heap_alloc_new _ _) rfl ?_;intro w3 h3 hg3;have H3:=Aa h3;have HL3:=Aa (show Le w w3 from ((Le.refl w).alloc _).box1 hg3 (Nat.le_refl _));clear h3 hg3)
   have y1:w3.cell? ⟨w.heap.size,1,none⟩=some (.bool true):=Ae H3.out 1
   clear c2 hlk2
   generalize w.heap.size=gx at *
   go_wp2_with fail
   rw[HR.out]
   have e1:dd.end_ id b=(dd,23):=by rw[Dd.end_,HF.out]
   exact⟨by rw[e1];rfl,by rw[e1];exact H.out.le HL3.out,Fp.of_le HL3.out⟩
  | none =>
   have hlk2:(Instr.lookup 288 (.map (some mp)) (.int .u64 id) true).run Tryz.prog w=.ok (.tuple #[.agg #[.string (str []),.bool false],.bool true]) w:=hlk
   clear hlk
   obtain⟨l1,l2,hl,hmp⟩:=dd_split H.out.nodup (GZ HF.out)
   go_upto_region 4 with (refine Ak rfl 286 (.tmp 7) (.tmp 18) rfl (cs:=[.string (str []),.bool false]) (old:=[.string ByteArray.empty,.bool false]) rfl rfl (by kernel_rfl) (by simp[Value.oneCell']) (heap_alloc_new _ _) rfl ?_;intro w3 h3 hg3;have H3:=Aa h3;have HL3:=Aa (show Le w w3 from ((Le.refl w).alloc _).box1 hg3 (Nat.le_refl _));clear h3 hg3)
   have y1:w3.cell? ⟨w.heap.size,1,none⟩=some (.bool false):=Ae H3.out 1
   have HB3:=Aa (H.out.le HL3.out)
   have y2:=HB3.out.c2
   have hM:=HB3.out.hM
   rw[hl,List.map_append,List.map_cons] at hM
   have hn4:(List.map enC l1++enC (id,none)::List.map enC l2).length≤1000000:=by
    have h5:=HB3.out.ln
    have h6:=HB3.out.rm
    rw[hl] at h5
    simp only[List.length_append,List.length_cons,List.length_map] at h5 ⊢
    omega
   obtain⟨w4,hr4,hM4,hg4⟩:=hM.putOld CY Tryz.underlying288 hn4 (Gf hid) (enV (some b))
   have HL:=Aa hl
   have HMP:=Aa hmp
   have HM4:=Aa hM4
   have HG4:=Aa hg4
   have hr5:(Instr.mapUpdate 288 (.map (some mp)) (.int .u64 id) (.agg #[.string (str b),.bool true])).run Tryz.prog w3=.ok () w4:=hr4
   clear c2 hlk2 hl hmp hM hM4 hg4 hr4 hn4
   generalize str b=S at *
   generalize w.heap.size=gx at *
   go_wp2_with (refine BB rfl (.tmp 29) (.tmp 30) (.tmp 32) rfl rfl rfl rfl hr5 ?_)
   rw[HR.out]
   have e1:dd.end_ id b=(⟨dd.room,l1++(id,some b)::l2⟩,0):=by rw[Dd.end_,HF.out];exact congrArg (fun l=>((⟨dd.room,l⟩:Dd),(0:Int))) (HMP.out (some b))
   have hmpd:mp≠d:=HB3.out.hM.ne HB3.out.hd
   refine⟨by rw[e1],?_,(Fp.of_le HL3.out).trans (Fp.of_grown HG4.out H.out.Mm)⟩
   rw[e1]
   have hfp:Fp (fun k=>k=mp) w3 w4:=Fp.of_grown HG4.out rfl
   have hids:=HB3.out.ids
   rw[HL.out] at hids
   refine⟨Ai HG4.out HB3.out.hd (by intro h;injection h with h;exact hmpd h),?_,?_,H.out.Md,H.out.Mm,H.out.r1,H.out.rm,?_,fun x hx=>?_⟩
   ·have h5:=HB3.out.hO
    rw[HL.out] at h5
    have e5:(l1++(id,some b)::l2).map idC=(l1++(id,none)::l2).map idC:=by simp[idC]
    show OwO M w4 _ 1 ov ((l1++(id,some b)::l2).map idC)
    rw[e5]
    refine⟨?_,h5.blk,h5.len⟩
    rcases h5.val with h6 | ⟨g,off,cap,cur,hv,h7,r⟩
    ·exact .inl h6
    ·exact .inr ⟨g,off,cap,cur,hv,Ai HG4.out h7 (by intro h;injection h with h;exact HB3.out.hM.ne h7 h),r⟩
   ·show Bz _ _ _ _ ((l1++(id,some b)::l2).map enC)
    rw[List.map_append,List.map_cons]
    exact HM4.out
   ·have h5:=H.out.ln
    rw[HL.out] at h5
    show (l1++(id,some b)::l2).length≤dd.room
    simpa using h5
   ·rcases List.mem_append.1 hx with hx | hx
    ·exact hids x (List.mem_append_left _ hx)
    ·rcases List.mem_cons.1 hx with rfl | hx
     ·exact hid
     ·exact hids x (List.mem_append_right _ (List.mem_cons_of_mem _ hx))
theorem OwO.row_map {T s b k:Nat} {v:Value} {xs:List (List Value)} {l:List (Value×Value)} (h:OwO M w T s v xs) (hm:Bz Tryz.prog w b k l):Value.rowB v≠some b:=fun e=>by
 rcases h.val with ⟨A,hv,_⟩ | ⟨g,off,cap,cur,hv,hg,r1,r2,r3⟩
 ·subst hv;simp[Value.rowB] at e
 ·subst hv
  obtain⟨c,rfl⟩:∃ c,cap=c+1:=⟨cap - 1,by omega⟩
  simp only[Value.rowB,Option.some.injEq] at e
  exact hm.ne hg e.symm
theorem OwO.keepM {T s b k:Nat} {v:Value} {xs:List (List Value)} {l:List (Value×Value)} (h:OwO M w T s v xs) (hg:w.grownBy w' (some b)) (hm:Bz Tryz.prog w b k l):OwO M w' T s v xs:=by
 refine⟨?_,h.blk,h.len⟩
 rcases h.val with h6 | ⟨g,off,cap,cur,hv,h7,r⟩
 ·exact .inl h6
 ·exact .inr ⟨g,off,cap,cur,hv,Ai hg h7 (by intro h;injection h with h;exact hm.ne h7 h),r⟩
def DdStP (M:Nat→Prop) (w:World) (d mp:Nat) (dd:Dd) (id:Nat) (e:Ending) (w':World):Prop :=
 e=.returned (.int .i64 (dd.start id).2)∧(∃ ov',DdB (Gn M w) w' d mp ov' (dd.start id).1)∧Fp M w w'
theorem ddStart (h:DdB M w d mp ov dd) (id:Nat) (hid:id<18446744073709551616) :
  Calls Tryz.prog 59 #[.pointer (some ⟨d,0,none⟩),.int .u64 id] w (DdStP M w d mp dd id):=by
 have c2:=h.c2
 have hlk:=(h.look hid).1
 have H:=Aa h
 obtain⟨R,hR⟩:∃ R,R=DdStP M w d mp dd id:=⟨_,rfl⟩
 rw[← hR]
 have HR:=Aa hR
 clear hR h
 go_enter Tryz.func59,Tryz.ntmps59
 obtain⟨S,hS⟩:∃ S,S=str (((dd.find id).getD none).getD []):=⟨_,rfl⟩
 obtain⟨dn,hdn⟩:∃ dn,dn=((dd.find id).getD none).isSome:=⟨_,rfl⟩
 have hlk2:(Instr.lookup 288 (.map (some mp)) (.int .u64 id) true).run Tryz.prog w=.ok (.tuple #[.agg #[.string S,.bool dn],.bool (dd.find id).isSome]) w:=by rw[hS,hdn];exact hlk
 clear hlk hS hdn
 cases hf:dd.find id with
 | some a =>
  rw[hf] at hlk2
  have hlk3:(Instr.lookup 288 (.map (some mp)) (.int .u64 id) true).run Tryz.prog w=.ok (.tuple #[.agg #[.string S,.bool dn],.bool true]) w:=hlk2
  have HF:=Aa hf
  clear hf hlk2
  go_wp2_with (refine Ak rfl 286 (.tmp 5) (.tmp 17) rfl (cs:=[.string S,.bool dn]) (old:=[.string ByteArray.empty,.bool false]) rfl rfl (by kernel_rfl) (by simp[Value.oneCell']) (heap_alloc_new _ _) rfl ?_;intro w3 h3 hg3;have H3:=Aa h3;have HL3:=Aa (show Le w w3 from ((Le.refl w).alloc _).box1 hg3 (Nat.le_refl _));clear h3 hg3)
  rw[HR.out]
  have e1:dd.start id=(dd,22):=by rw[Dd.start,HF.out];rfl
  exact⟨by rw[e1];rfl,⟨ov,by rw[e1];exact (H.out.le HL3.out).mono fun k _ h=>.inl h⟩,Fp.of_le HL3.out⟩
 | none =>
  rw[hf] at hlk2
  have hlk3:(Instr.lookup 288 (.map (some mp)) (.int .u64 id) true).run Tryz.prog w=.ok (.tuple #[.agg #[.string S,.bool dn],.bool false]) w:=hlk2
  have HNF:=Aa hf
  clear hf hlk2
  obtain⟨A,cap,hv⟩:=H.out.hO.slice
  have hlen0:(dd.l.map idC).length=dd.l.length:=List.length_map ..
  rw[hlen0] at hv
  go_upto_region 6 with (refine Ak rfl 286 (.tmp 5) (.tmp 17) rfl (cs:=[.string S,.bool dn]) (old:=[.string ByteArray.empty,.bool false]) rfl rfl (by kernel_rfl) (by simp[Value.oneCell']) (heap_alloc_new _ _) rfl ?_;intro w3 h3 hg3;have HL3:=Aa (show Le w w3 from ((Le.refl w).alloc _).box1 hg3 (Nat.le_refl _));clear h3 hg3)
  have HB3:=Aa (H.out.le HL3.out)
  have y0:=HB3.out.c0
  have y1:w3.cell? ⟨d,1,none⟩=some (.slice A dd.l.length cap):=by rw[HB3.out.c1,hv]
  have HV:=Aa hv
  have hln:=HB3.out.ln
  have hrm:=HB3.out.rm
  have hr1:=HB3.out.r1
  clear c2 hlk3 hv hlen0
  by_cases hfull:dd.l.length=dd.room
  ·rw[hfull] at y1
   have HFU:=Aa hfull
   clear hfull
   go_quiet (fail)
   have HL8:=Aa (HL3.out.drewN nq)
   have HB8:=Aa (H.out.le HL8.out)
   clear y0 y1 HB3 HL3
   generalize w3.drewN nq=w8 at *
   obtain⟨⟨f0,a0⟩,l,hl⟩:∃ x l,dd.l=x::l:=by
    cases hq:dd.l with
    | nil=>have hfull:=HFU.out;rw[hq] at hfull;simp at hfull;omega
    | cons x l=>exact⟨x,l,rfl⟩
   have hf0:f0<18446744073709551616:=HB8.out.ids (f0,a0) (by rw[hl];exact List.mem_cons_self ..)
   have hfd:dd.find f0=some a0:=by rw[Dd.find,hl,List.find?_cons_of_pos (by simp)];rfl
   have hlkF:(Instr.lookup 288 (.map (some mp)) (.int .u64 f0) false).run Tryz.prog w8=.ok (.agg #[.string (str (a0.getD [])),.bool a0.isSome]) w8:=by
    have:=(HB8.out.look hf0).2
    rw[ddV,hfd] at this
    exact this
   rcases HB8.out.hO.val with ⟨A',e1,e2⟩ | ⟨g,off,cp,cur,hov,hg,r1,r2,r3,r4,r5⟩
   ·rw[hl] at e2;simp at e2
   ·rw[List.length_map] at hov r1
    obtain⟨o1,ho1⟩:∃ o1,o1=off*1:=⟨_,rfl⟩
    have hln2:dd.l.length=l.length+1:=by rw[hl];rfl
    have y1:w8.cell? ⟨d,1,none⟩=some (.slice (some ⟨g,o1,none⟩) dd.room cp):=by rw[HB8.out.c1,ho1,← HFU.out];exact congrArg some hov
    have y2:=HB8.out.c2
    have y3:w8.cell? ⟨g,o1,none⟩=some (.int .u64 f0):=by
     have h5:=r5 0 [.int .u64 f0] (by rw[hl];rfl) 0 (by omega)
     rw[Ae hg,List.getElem?_toArray,ho1]
     simpa using h5
    have hp0:(0:Int)<(dd.room:Int):=by omega
    have HOV:=Aa hov
    have HO1:=Aa ho1
    have HL:=Aa hl
    have HR1:=Aa r1
    clear hov ho1 r3 r4 r5 hg hl hfd
    cases a0 with
    | none =>
     have hlkG:(Instr.lookup 288 (.map (some mp)) (.int .u64 f0) false).run Tryz.prog w8=.ok (.agg #[.string (str []),.bool false]) w8:=hlkF
     clear hlkF
     have hfl:∀ W,(Instr.field 286 (.agg #[.string (str []),.bool false]) 1).run Tryz.prog W=.ok (.bool false) W:=fun W=>by rfl
     have HE:=Aa (show dd.start id=(dd,20) by rw[Dd.start,HNF.out];simp only[Option.isSome_none,Bool.false_eq_true,if_false];rw[if_pos HFU.out,HL.out])
     go_wp2_with fail
     rw[HR.out]
     exact⟨by rw[HE.out];rfl,⟨ov,by rw[HE.out];exact HB8.out.mono fun k _ h=>.inl h⟩,Fp.of_le HL8.out⟩
    | some a =>
     have hlkG:(Instr.lookup 288 (.map (some mp)) (.int .u64 f0) false).run Tryz.prog w8=.ok (.agg #[.string (str a),.bool true]) w8:=hlkF
     clear hlkF
     have HE:=Aa (show dd.start id=(⟨dd.room,l++[(id,none)]⟩,0) by rw[Dd.start,HNF.out];simp only[Option.isSome_none,Bool.false_eq_true,if_false];rw[if_pos HFU.out,HL.out])
     generalize str a=SA at *
     have hfl:∀ W,(Instr.field 286 (.agg #[.string SA,.bool true]) 1).run Tryz.prog W=.ok (.bool true) W:=fun W=>by rfl
     go_upto_region 10 with fail
     have hM8:=HB8.out.hM
     rw[HL.out,List.map_cons] at hM8
     obtain⟨w9,hr9,hM9,hg9⟩:=Bz.del (l1:=[]) hM8 CY Tryz.underlying288 (Gf hf0) 0
     have HM9:=Aa hM9
     have HG9:=Aa hg9
     have HD9:=Aa (Ai hg9 HB8.out.hd (by intro h;injection h with h;exact hM8.ne HB8.out.hd h))
     have HO9:=Aa (HB8.out.hO.keepM hg9 hM8)
     have HMD:=Aa (hM8.ne HB8.out.hd)
     have hr10:=fun ty:TypeId=>(show (Builtin.delete_ #[288,28] ty #[.map (some mp),.int .u64 f0]).run Tryz.prog w8=.ok (.tuple #[]) w9 from hr9)
     clear hM9 hg9 hM8 hr9 hlkG
     go_upto_region 11 with (refine wpl_del rfl (.tmp 47) (.tmp 48) rfl rfl rfl (hr10 _) ?_)
     have y4:w9.cell? ⟨d,1,none⟩=some (.slice (some ⟨g,o1,none⟩) dd.room cp):=by rw[Ae HD9.out 1,HO1.out,← HFU.out];exact congrArg some HOV.out
     clear y1 y2 y3 hr10
     have hp1:(1:Int)≤(dd.room:Int):=by omega
     have HP2:=Aa (show dd.room - 1=l.length by have:=HFU.out;omega)
     have HLN2:=Aa hln2
     have HRC:=Aa (show dd.room≤cp by have:=HFU.out;have:=HR1.out;omega)
     clear hln2 hln
     rcases Nat.lt_or_ge 1 cp with hc1 | hc1
     ·have hc2:¬ cp=1:=by omega
      go_upto_region 12 with (refine Ao rfl 75 (.tmp 56) (.tmp 54) rfl [.int .i64 dd.room] (v:=.slice (some ⟨g,o1+1,none⟩) (dd.room - 1) (cp - 1)) (old:=ov) (post:=[.map (some mp)]) rfl rfl (by kernel_rfl) rfl HD9.out ?_;intro w10 h10 hg10;have H10:=Aa h10;have HG10:=Aa hg10;clear h10 hg10)
      have hO10:=HO9.out.other HG10.out HD9.out (by decide)
      rw[HL.out,List.map_cons] at hO10
      have hO11:OwO M w10 28 1 (.slice (some ⟨g,o1+1,none⟩) (dd.room - 1) (cp - 1)) (l.map idC):=hO10.tail (g:=g) (off:=off) (cap:=cp - 1) (cur:=cur) (by rw[HOV.out,List.length_map,HLN2.out,show cp - 1+1=cp by omega]) (fun _=>by rw[List.length_map,HP2.out,HO1.out];simp) (fun h=>by omega) (by omega)
      have HB10:=Aa (show DdB M w10 d mp (.slice (some ⟨g,o1+1,none⟩) (dd.room - 1) (cp - 1)) ⟨dd.room,l⟩ from ⟨H10.out,hO11,HM9.out.grown HG10.out HMD.out,HB8.out.Md,HB8.out.Mm,HB8.out.r1,HB8.out.rm,by have:=HB8.out.ln;have:=HLN2.out;show l.length≤dd.room;omega,fun x hx=>HB8.out.ids x (by rw[HL.out];exact List.mem_cons_of_mem _ hx)⟩)
      have HFP:=Aa ((Fp.of_le (S:=M) HL8.out).trans ((Fp.of_grown HG9.out HB8.out.Mm).trans (Fp.of_grown HG10.out HB8.out.Md)))
      have hnf:(⟨dd.room,l⟩:Dd).find id=none:=by
       have:=HNF.out
       rw[Dd.find,HL.out,List.find?_cons] at this
       rw[Dd.find]
       split at this
       ·cases this
       ·exact this
      have HN2:=Aa hnf
      clear hO10 hO11 y4 hnf
      have z1:=HB10.out.c1
      go_upto_region 13 with (first | (refine Fd rfl slU64 (.tmp 61) (.tmp 63) rfl HB10.out.hO ((Le.refl _).alloc _) rfl rfl (BsF.new [.int .u64 id] _ (fun k hk=>HB10.out.hO.row_lt hk)) rfl (by simp[Value.oneCell']) (by have:=HP2.out;rw[List.length_map];show l.length≤_;omega) (by omega) ?_;intro v' w4 h4 h5;have H4:=Aa h4;have H1C:=Aa (show v'.oneCell'=true by obtain⟨A3,cap3,e3⟩:=h4.own.slice;rw[e3];rfl);have HD4:=Aa (h4.heap HB10.out.hO HB10.out.hd (by decide));clear h4 h5) | (refine Ao rfl 75 (.tmp 66) (.tmp 64) rfl [.int .i64 dd.room] (v:=v') (old:=.slice (some ⟨g,o1+1,none⟩) (dd.room - 1) (cp - 1)) (post:=[.map (some mp)]) rfl rfl (by kernel_rfl) H1C.out HD4.out ?_;intro w5 h5 hg5;have H5:=Aa h5;have HG5:=Aa hg5;clear h5 hg5))
      have hmpd:mp≠d:=HB10.out.hM.ne HB10.out.hd
      have hM4:=HB10.out.hM.same (H4.out.gr.out.block mp HB10.out.hM.lt (fun e=>HB10.out.hO.row_map HB10.out.hM e.symm))
      have hM5:=hM4.grown HG5.out hmpd
      obtain⟨w6,hr6,hM6,hg6⟩:=hM5.putNew CY Tryz.underlying288 (by have:=HP2.out;rw[List.length_map];show l.length≤_;omega) (Gf hid) (E2 HN2.out) (enV none)
      have hr7:(Instr.mapUpdate 288 (.map (some mp)) (.int .u64 id) (.agg #[.string ByteArray.empty,.bool false])).run Tryz.prog w5=.ok () w6:=hr6
      have HM6:=Aa hM6
      have HG6:=Aa hg6
      have HMPD:=Aa hmpd
      have z2:w5.cell? ⟨d,2,none⟩=some (.map (some mp)):=Ae H5.out 2
      clear hM4 hM5 hr6 hM6 hg6 z1 hmpd
      go_wp2_with (refine BB rfl (.tmp 70) (.tmp 71) (.tmp 72) rfl rfl rfl rfl hr7 ?_)
      have hmpd:=HMPD.out
      rw[HR.out]
      refine⟨by rw[HE.out],⟨v',?_⟩,(HFP.out.trans (H4.out.fp HB10.out.hO)).trans ((Fp.of_grown HG5.out HB10.out.Md).trans (Fp.of_grown HG6.out HB10.out.Mm))⟩
      rw[HE.out]
      have hO5:=(H4.out.ownO HB10.out.hO).other HG5.out HD4.out (by decide)
      refine⟨Ai HG6.out H5.out (by intro h;injection h with h;exact hmpd h),?_,?_,.inl HB10.out.Md,.inl HB10.out.Mm,HB10.out.r1,HB10.out.rm,?_,fun x hx=>?_⟩
      ·show OwO _ w6 _ 1 v' ((l++[(id,none)]).map idC)
       rw[List.map_append]
       refine (hO5.keepM HG6.out ((HB10.out.hM.same (H4.out.gr.out.block mp HB10.out.hM.lt (fun e=>HB10.out.hO.row_map HB10.out.hM e.symm))).grown HG5.out hmpd)).mono fun k _ hk=>hk.elim .inl fun hk=>.inr (Nat.le_trans HFP.out.size hk)
      ·show Bz _ _ _ _ ((l++[(id,none)]).map enC)
       rw[List.map_append]
       exact HM6.out
      ·show (l++[(id,none)]).length≤dd.room
       rw[List.length_append]
       simp only[List.length_cons,List.length_nil]
       have:=HP2.out
       omega
      ·rcases List.mem_append.1 hx with hx | hx
       ·exact HB10.out.ids x hx
       ·rw[List.mem_singleton.1 hx];exact hid
     ·obtain rfl:cp=1:=by have:=HRC.out;omega
      have hl1:dd.room=1:=by have:=HRC.out;omega
      rw[hl1] at y4
      have HL1:=Aa hl1
      clear hl1
      go_upto_region 12 with (refine Ao rfl 75 (.tmp 56) (.tmp 54) rfl [.int .i64 dd.room] (v:=.slice (some ⟨g,o1,none⟩) 0 0) (old:=ov) (post:=[.map (some mp)]) rfl rfl (by kernel_rfl) rfl HD9.out ?_;intro w10 h10 hg10;have H10:=Aa h10;have HG10:=Aa hg10;clear h10 hg10)
      have hO10:=HO9.out.other HG10.out HD9.out (by decide)
      rw[HL.out,List.map_cons] at hO10
      have hO11:OwO M w10 28 1 (.slice (some ⟨g,o1,none⟩) 0 0) (l.map idC):=hO10.tail (g:=g) (off:=off) (cap:=0) (cur:=cur) (by rw[HOV.out,List.length_map,HLN2.out]) (fun h=>absurd h (by omega)) (fun _=>⟨_,rfl⟩) (by omega)
      have HB10:=Aa (show DdB M w10 d mp (.slice (some ⟨g,o1,none⟩) 0 0) ⟨dd.room,l⟩ from ⟨H10.out,hO11,HM9.out.grown HG10.out HMD.out,HB8.out.Md,HB8.out.Mm,HB8.out.r1,HB8.out.rm,by have:=HB8.out.ln;have:=HLN2.out;show l.length≤dd.room;omega,fun x hx=>HB8.out.ids x (by rw[HL.out];exact List.mem_cons_of_mem _ hx)⟩)
      have HFP:=Aa ((Fp.of_le (S:=M) HL8.out).trans ((Fp.of_grown HG9.out HB8.out.Mm).trans (Fp.of_grown HG10.out HB8.out.Md)))
      have hnf:(⟨dd.room,l⟩:Dd).find id=none:=by
       have:=HNF.out
       rw[Dd.find,HL.out,List.find?_cons] at this
       rw[Dd.find]
       split at this
       ·cases this
       ·exact this
      have HN2:=Aa hnf
      clear hO10 hO11 y4 hnf
      have z1:=HB10.out.c1
      go_upto_region 13 with (first | (refine Fd rfl slU64 (.tmp 61) (.tmp 63) rfl HB10.out.hO ((Le.refl _).alloc _) rfl rfl (BsF.new [.int .u64 id] _ (fun k hk=>HB10.out.hO.row_lt hk)) rfl (by simp[Value.oneCell']) (by have:=HP2.out;rw[List.length_map];show l.length≤_;omega) (by omega) ?_;intro v' w4 h4 h5;have H4:=Aa h4;have H1C:=Aa (show v'.oneCell'=true by obtain⟨A3,cap3,e3⟩:=h4.own.slice;rw[e3];rfl);have HD4:=Aa (h4.heap HB10.out.hO HB10.out.hd (by decide));clear h4 h5) | (refine Ao rfl 75 (.tmp 66) (.tmp 64) rfl [.int .i64 dd.room] (v:=v') (old:=.slice (some ⟨g,o1,none⟩) 0 0) (post:=[.map (some mp)]) rfl rfl (by kernel_rfl) H1C.out HD4.out ?_;intro w5 h5 hg5;have H5:=Aa h5;have HG5:=Aa hg5;clear h5 hg5))
      have hmpd:mp≠d:=HB10.out.hM.ne HB10.out.hd
      have hM4:=HB10.out.hM.same (H4.out.gr.out.block mp HB10.out.hM.lt (fun e=>HB10.out.hO.row_map HB10.out.hM e.symm))
      have hM5:=hM4.grown HG5.out hmpd
      obtain⟨w6,hr6,hM6,hg6⟩:=hM5.putNew CY Tryz.underlying288 (by have:=HP2.out;rw[List.length_map];show l.length≤_;omega) (Gf hid) (E2 HN2.out) (enV none)
      have hr7:(Instr.mapUpdate 288 (.map (some mp)) (.int .u64 id) (.agg #[.string ByteArray.empty,.bool false])).run Tryz.prog w5=.ok () w6:=hr6
      have HM6:=Aa hM6
      have HG6:=Aa hg6
      have HMPD:=Aa hmpd
      have z2:w5.cell? ⟨d,2,none⟩=some (.map (some mp)):=Ae H5.out 2
      clear hM4 hM5 hr6 hM6 hg6 z1 hmpd
      go_wp2_with (refine BB rfl (.tmp 70) (.tmp 71) (.tmp 72) rfl rfl rfl rfl hr7 ?_)
      have hmpd:=HMPD.out
      rw[HR.out]
      refine⟨by rw[HE.out],⟨v',?_⟩,(HFP.out.trans (H4.out.fp HB10.out.hO)).trans ((Fp.of_grown HG5.out HB10.out.Md).trans (Fp.of_grown HG6.out HB10.out.Mm))⟩
      rw[HE.out]
      have hO5:=(H4.out.ownO HB10.out.hO).other HG5.out HD4.out (by decide)
      refine⟨Ai HG6.out H5.out (by intro h;injection h with h;exact hmpd h),?_,?_,.inl HB10.out.Md,.inl HB10.out.Mm,HB10.out.r1,HB10.out.rm,?_,fun x hx=>?_⟩
      ·show OwO _ w6 _ 1 v' ((l++[(id,none)]).map idC)
       rw[List.map_append]
       refine (hO5.keepM HG6.out ((HB10.out.hM.same (H4.out.gr.out.block mp HB10.out.hM.lt (fun e=>HB10.out.hO.row_map HB10.out.hM e.symm))).grown HG5.out hmpd)).mono fun k _ hk=>hk.elim .inl fun hk=>.inr (Nat.le_trans HFP.out.size hk)
      ·show Bz _ _ _ _ ((l++[(id,none)]).map enC)
       rw[List.map_append]
       exact HM6.out
      ·show (l++[(id,none)]).length≤dd.room
       rw[List.length_append]
       simp only[List.length_cons,List.length_nil]
       have:=HP2.out
       omega
      ·rcases List.mem_append.1 hx with hx | hx
       ·exact HB10.out.ids x hx
       ·rw[List.mem_singleton.1 hx];exact hid
  ·have hz:((dd.l.length:Int)==(dd.room:Int))=false:=by rw[beq_eq_false_iff_ne];omega
   have HE:=Aa (show dd.start id=(⟨dd.room,dd.l++[(id,none)]⟩,0) by rw[Dd.start,HNF.out];simp only[Option.isSome_none,Bool.false_eq_true,if_false];rw[if_neg hfull])
   go_quiet (fail)
   have HL8:=Aa (HL3.out.drewN nq)
   have HB8:=Aa (H.out.le HL8.out)
   clear y0 y1 HB3 HL3
   generalize w3.drewN nq=w8 at *
   have HFP:=Aa (Fp.of_le (S:=M) HL8.out)
   have z1:=HB8.out.c1
   go_upto_region 13 with (first | (refine Fd rfl slU64 (.tmp 61) (.tmp 63) rfl HB8.out.hO ((Le.refl _).alloc _) rfl rfl (BsF.new [.int .u64 id] _ (fun k hk=>HB8.out.hO.row_lt hk)) rfl (by simp[Value.oneCell']) (by rw[List.length_map];omega) (by omega) ?_;intro v' w4 h4 h5;have H4:=Aa h4;have H1C:=Aa (show v'.oneCell'=true by obtain⟨A3,cap3,e3⟩:=h4.own.slice;rw[e3];rfl);have HD4:=Aa (h4.heap HB8.out.hO HB8.out.hd (by decide));clear h4 h5) | (refine Ao rfl 75 (.tmp 66) (.tmp 64) rfl [.int .i64 dd.room] (v:=v') (old:=ov) (post:=[.map (some mp)]) rfl rfl (by kernel_rfl) H1C.out HD4.out ?_;intro w5 h5 hg5;have H5:=Aa h5;have HG5:=Aa hg5;clear h5 hg5))
   have hmpd:mp≠d:=HB8.out.hM.ne HB8.out.hd
   have hM4:=HB8.out.hM.same (H4.out.gr.out.block mp HB8.out.hM.lt (fun e=>HB8.out.hO.row_map HB8.out.hM e.symm))
   have hM5:=hM4.grown HG5.out hmpd
   obtain⟨w6,hr6,hM6,hg6⟩:=hM5.putNew CY Tryz.underlying288 (by rw[List.length_map];omega) (Gf hid) (E2 HNF.out) (enV none)
   have hr7:(Instr.mapUpdate 288 (.map (some mp)) (.int .u64 id) (.agg #[.string ByteArray.empty,.bool false])).run Tryz.prog w5=.ok () w6:=hr6
   have HM6:=Aa hM6
   have HG6:=Aa hg6
   have HMPD:=Aa hmpd
   have z2:w5.cell? ⟨d,2,none⟩=some (.map (some mp)):=Ae H5.out 2
   clear hM4 hM5 hr6 hM6 hg6 z1 hmpd
   go_wp2_with (refine BB rfl (.tmp 70) (.tmp 71) (.tmp 72) rfl rfl rfl rfl hr7 ?_)
   have hmpd:=HMPD.out
   rw[HR.out]
   refine⟨by rw[HE.out];rfl,⟨v',?_⟩,(HFP.out.trans (H4.out.fp HB8.out.hO)).trans ((Fp.of_grown HG5.out HB8.out.Md).trans (Fp.of_grown HG6.out HB8.out.Mm))⟩
   rw[HE.out]
   have hO5:=(H4.out.ownO HB8.out.hO).other HG5.out HD4.out (by decide)
   refine⟨Ai HG6.out H5.out (by intro h;injection h with h;exact hmpd h),?_,?_,.inl HB8.out.Md,.inl HB8.out.Mm,HB8.out.r1,HB8.out.rm,?_,fun x hx=>?_⟩
   ·show OwO _ w6 _ 1 v' ((dd.l++[(id,none)]).map idC)
    rw[List.map_append]
    refine (hO5.keepM HG6.out ((HB8.out.hM.same (H4.out.gr.out.block mp HB8.out.hM.lt (fun e=>HB8.out.hO.row_map HB8.out.hM e.symm))).grown HG5.out hmpd)).mono fun k _ hk=>hk.elim .inl fun hk=>.inr (Nat.le_trans HFP.out.size hk)
   ·show Bz _ _ _ _ ((dd.l++[(id,none)]).map enC)
    rw[List.map_append]
    exact HM6.out
   ·show (dd.l++[(id,none)]).length≤dd.room
    rw[List.length_append]
    simp only[List.length_cons,List.length_nil]
    omega
   ·rcases List.mem_append.1 hx with hx | hx
    ·exact HB8.out.ids x hx
    ·rw[List.mem_singleton.1 hx];exact hid
end
structure F2 {α β:Type} (R:α→β→Prop) (l:List α) (m:List β):Prop where
 len:l.length=m.length
 at_:∀ (i:Nat) x y,l[i]?=some x→m[i]?=some y→R x y
section
variable {α β:Type} {R R':α→β→Prop} {l l':List α} {m m':List β} {x:α} {y:β}
theorem F2.nil:F2 R [] []:=⟨rfl,fun i x y h=>by simp at h⟩
theorem F2.imp (h:F2 R l m) (hi:∀ x y,x∈l→y∈m→R x y→R' x y):F2 R' l m:=⟨h.len,fun i x y hx hy=>hi x y (List.mem_of_getElem? hx) (List.mem_of_getElem? hy) (h.at_ i x y hx hy)⟩
theorem F2.cons (h:R x y) (ht:F2 R l m):F2 R (x::l) (y::m):=⟨by simp[ht.len],fun i a b ha hb=>by
 cases i with
 | zero=>simp at ha hb;subst ha hb;exact h
 | succ i=>exact ht.at_ i a b (by simpa using ha) (by simpa using hb)⟩
theorem F2.head (h:F2 R (x::l) (y::m)):R x y:=h.at_ 0 x y rfl rfl
theorem F2.tail (h:F2 R (x::l) (y::m)):F2 R l m:=⟨by simpa using h.len,fun i a b ha hb=>h.at_ (i+1) a b (by simpa using ha) (by simpa using hb)⟩
theorem F2.append (h:F2 R l m) (h':F2 R l' m'):F2 R (l++l') (m++m'):=⟨by simp[h.len,h'.len],fun i a b ha hb=>by
 rcases Nat.lt_or_ge i l.length with hi | hi
 ·rw[List.getElem?_append_left hi] at ha
  rw[List.getElem?_append_left (by rw[← h.len];exact hi)] at hb
  exact h.at_ i a b ha hb
 ·rw[List.getElem?_append_right hi] at ha
  rw[List.getElem?_append_right (by rw[← h.len];exact hi),← h.len] at hb
  exact h'.at_ _ a b ha hb⟩
theorem F2.one (h:R x y):F2 R [x] [y]:=F2.cons h F2.nil
theorem F2.set (h:F2 R l m) {i:Nat} (hr:R x y):F2 R (l.set i x) (m.set i y):=⟨by simp[h.len],fun j a b ha hb=>by
 rw[List.getElem?_set] at ha hb
 split at ha
 ·next e =>
  subst e
  rw[if_pos rfl] at hb
  split at ha
  ·injection ha with ha
   split at hb
   ·injection hb with hb;subst ha hb;exact hr
   ·cases hb
  ·cases ha
 ·next e =>
  rw[if_neg e] at hb
  exact h.at_ j a b ha hb⟩
theorem F2.nil_iff (h:F2 R l m):l=[]↔m=[]:=by
 have:=h.len
 constructor
 ·rintro rfl;exact List.eq_nil_of_length_eq_zero (by simpa using this.symm)
 ·rintro rfl;exact List.eq_nil_of_length_eq_zero (by simpa using this)
theorem F2.two (h:F2 R l (y::m)):∃ x l',l=x::l'∧R x y∧F2 R l' m:=by
 cases l with
 | nil=>have:=h.len;simp at this
 | cons x l=>exact⟨x,l,rfl,h.head,h.tail⟩
end
def tg (g:Nat→Nat) (i k:Nat):Prop:=g k=i
def u8C (x:UInt8):List Value:=[.int .u8 x.toNat]
def Hu (n:Int):List Value:=[.int .i64 n]
def slP (s:ASl (Nat×Nat)):ASl Nat:=⟨s.x.map (·.1),s.turn⟩
section
variable {g g':Nat→Nat} {w w':World} {S:Nat→Prop}
def CM (g:Nat→Nat) (w:World) (a:Nat) (l:List (ASl (Nat×Nat))):Prop:=∃ aB,D0 w a aB (l.map slP)∧g a=2∧g aB=2
theorem CM.mv {a:Nat} {l:List (ASl (Nat×Nat))} (h:CM g w a l) (hf:Fp S w w') (hs:∀ k,S k→g k≠2) (hg:∀ k,k<w.heap.size→g' k=g k):CM g' w' a l:=by
 obtain⟨aB,h1,h2,h3⟩:=h
 obtain⟨cur,hB,_⟩:=h1.hB
 exact⟨aB,h1.fp hf (fun e=>hs _ e h2) (fun e=>hs _ e h3),(hg _ (Ah h1.ha)).trans h2,(hg _ (Ah hB)).trans h3⟩
def In (g:Nat→Nat) (w:World) (l:List (ASl (Nat×Nat))):Prop:=∀ s∈l,∀ p,s.x=some p→EA w p.1 p.2∧g p.1=11
theorem In.mv {l:List (ASl (Nat×Nat))} (h:In g w l) (hf:Fp S w w') (hs:∀ k,S k→g k≠11) (hg:∀ k,k<w.heap.size→g' k=g k):In g' w' l:=fun s hm p hp=>by
 obtain⟨⟨cs,h1⟩,h2⟩:=h s hm p hp
 exact⟨⟨cs,hf.heap h1 (fun e=>hs _ e h2)⟩,(hg _ (Ah h1)).trans h2⟩
def Fx (g:Nat→Nat) (w:World) (p:Nat) (pn:Pn):Prop:=Gi (tg g 3) w p pn
theorem Fx.mv {p:Nat} {pn:Pn} (h:Fx g w p pn) (hf:Fp S w w') (hs:∀ k,S k→g k≠3) (hg:∀ k,k<w.heap.size→g' k=g k):Fx g' w' p pn:=by
 obtain⟨Bl,wv,h⟩:=h
 exact⟨Bl,wv,((h.mono (M':=fun k=>tg g 3 k∧k<w.heap.size) (fun k hk h=>⟨h,hk⟩)).fp hf (fun k hk e=>hs k hk e.1)).mono (fun k _ e=>(hg k e.2).trans e.1)⟩
theorem DY.mv {i:Nat} {t:Nat} {tb:Tb} (h:DY (tg g i) w t tb) (hf:Fp S w w') (hs:∀ k,S k→g k≠i) (hg:∀ k,k<w.heap.size→g' k=g k):DY (tg g' i) w' t tb:=by
 obtain⟨br,bd,h⟩:=h
 exact⟨br,bd,hf.heap h.ht (fun e=>hs _ e h.Nt),h.hr.fp hf (fun e=>hs _ e h.Nr),h.hd.fp hf (fun e=>hs _ e h.Nd),(hg _ (Ah h.ht)).trans h.Nt,(hg _ h.hr.lt).trans h.Nr,(hg _ h.hd.lt).trans h.Nd⟩
theorem Bu.mono {M M':Nat→Prop} {b:Nat} {d:BdS} (h:Bu M w b d) (hm:∀ k,k<w.heap.size→M k→M' k):Bu M' w b d:=by
 obtain⟨curK,hKA,_⟩:=h.hK.hA
 exact⟨h.hb,h.hT.mono hm,h.hQ,h.hK,h.hL.mono hm,hm _ (Ah h.hb) h.Mb,fun q hq=>by
  obtain⟨cur,hA,_⟩:=(h.hQ q hq).hA
  exact⟨hm _ (Ah (h.hQ q hq).hQ) (h.Mq q hq).1,hm _ (Ah hA) (h.Mq q hq).2⟩,⟨hm _ (Ah h.hK.hQ) h.Ma.1,hm _ (Ah hKA) h.Ma.2⟩,h.dQ,h.dA,h.n1,h.n4,h.R1,h.R2,h.lens,h.lt,h.lta⟩
def TbsAt (g:Nat→Nat) (w:World) (l:List Nat) (m:List Tb):Prop:=F2 (fun k t=>DY (tg g 8) w k t) l m
structure Gj (g:Nat→Nat) (w:World) (d:BdS) (b:Bd):Prop where
 room:d.R=b.room
 acks:d.acks=b.acks
 lasts:d.lasts=b.last
 qs:F2 (fun q l=>TbsAt g w q.l l) d.qs b.q
theorem Gj.mv {d:BdS} {b:Bd} (h:Gj g w d b) (hf:Fp S w w') (hs:∀ k,S k→g k≠8) (hg:∀ k,k<w.heap.size→g' k=g k):Gj g' w' d b :=
 ⟨h.room,h.acks,h.lasts,h.qs.imp fun q l _ _ hq=>hq.imp fun k t _ _ ht=>ht.mv hf hs hg⟩
def DH (g:Nat→Nat) (w:World) (p:Nat) (b:Bd):Prop:=∃ d,Bu (tg g 4) w p d∧Gj g w d b
theorem Bu.mv {p:Nat} {d:BdS} (h:Bu (tg g 4) w p d) (hf:Fp S w w') (hs:∀ k,S k→g k≠4) (hg:∀ k,k<w.heap.size→g' k=g k):Bu (tg g' 4) w' p d :=
 ((h.mono (M':=fun k=>tg g 4 k∧k<w.heap.size) (fun k hk h=>⟨h,hk⟩)).fp hf (fun k hk e=>hs k hk e.1)).mono (fun k _ e=>(hg k e.2).trans e.1)
theorem DH.mv {p:Nat} {b:Bd} (h:DH g w p b) (hf:Fp S w w') (hs:∀ k,S k→g k≠4∧g k≠8) (hg:∀ k,k<w.heap.size→g' k=g k):DH g' w' p b:=by
 obtain⟨d,h1,h2⟩:=h
 exact⟨d,h1.mv hf (fun k hk=>(hs k hk).1) hg,h2.mv hf (fun k hk=>(hs k hk).2) hg⟩
theorem AA.mv {i T s:Nat} {v:Value} {xs:List (List Value)} (h:AA (tg g i) w T s v xs) (hf:Fp S w w') (hs:∀ k,S k→g k≠i) (hg:∀ k,k<w.heap.size→g' k=g k):AA (tg g' i) w' T s v xs :=
 ((h.mono (M':=fun k=>tg g i k∧k<w.heap.size) (fun k hk h=>⟨h,hk⟩)).fp hf (fun k hk e=>hs k hk e.1)).mono (fun k _ e=>(hg k e.2).trans e.1)
def CallIs (g:Nat→Nat) (w:World) (v:List Value) (x:Int×List UInt8):Prop:=∃ bv,v=[.int .i64 x.1,bv]∧AA (tg g 5) w 5 1 bv (x.2.map u8C)
structure CIntakeB (g:Nat→Nat) (w:World) (q qA qF room:Nat) (vs:List (List Value)) (l:List (Int×List UInt8)):Prop where
 qa:QAt 284 159 2 w q qA room qF vs
 gq:g q=5
 gA:g qA=5
 vs:F2 (CallIs g w) vs l
def D5 (g:Nat→Nat) (w:World) (q room:Nat) (l:List (Int×List UInt8)):Prop:=∃ qA qF vs,CIntakeB g w q qA qF room vs l
theorem D5.mv {q room:Nat} {l:List (Int×List UInt8)} (h:D5 g w q room l) (hf:Fp S w w') (hs:∀ k,S k→g k≠5) (hg:∀ k,k<w.heap.size→g' k=g k):D5 g' w' q room l:=by
 obtain⟨qA,qF,vs,h⟩:=h
 obtain⟨cur,hA,_⟩:=h.qa.hA
 exact⟨qA,qF,vs,h.qa.fp hf (fun e=>hs _ e h.gq) (fun e=>hs _ e h.gA),(hg _ (Ah h.qa.hQ)).trans h.gq,(hg _ (Ah hA)).trans h.gA,h.vs.imp fun v x _ _ hv=>by
  obtain⟨bv,e,ho⟩:=hv
  exact⟨bv,e,ho.mv hf hs hg⟩⟩
def Im (g:Nat→Nat) (w:World) (d:Nat) (dd:Dd):Prop:=Iy (tg g 6) w d dd
theorem Im.mv {d:Nat} {dd:Dd} (h:Im g w d dd) (hf:Fp S w w') (hs:∀ k,S k→g k≠6) (hg:∀ k,k<w.heap.size→g' k=g k):Im g' w' d dd:=by
 obtain⟨mp,ov,h⟩:=h
 exact⟨mp,ov,((h.mono (M':=fun k=>tg g 6 k∧k<w.heap.size) (fun k hk h=>⟨h,hk⟩)).fp hf (fun k hk e=>hs k hk e.1)).mono (fun k _ e=>(hg k e.2).trans e.1)⟩
def FH (g:Nat→Nat) (w:World) (s:DS) (pv tv sv:Value):Prop:=∃ ts,DsB (tg g 7) w s pv tv sv ts
theorem FH.mv {s:DS} {pv tv sv:Value} (h:FH g w s pv tv sv) (hf:Fp S w w') (hs:∀ k,S k→g k≠7) (hg:∀ k,k<w.heap.size→g' k=g k):FH g' w' s pv tv sv:=by
 obtain⟨ts,h⟩:=h
 exact⟨ts,((h.mono (M':=fun k=>tg g 7 k∧k<w.heap.size) (fun k hk h=>⟨h,hk⟩)).fp hf (fun k hk e=>hs k hk e.1)).mono (fun k _ e=>(hg k e.2).trans e.1)⟩
theorem TbO.mv {o:Option Nat} {t:Option Tb} (h:TbO (tg g 8) w o t) (hf:Fp S w w') (hs:∀ k,S k→g k≠8) (hg:∀ k,k<w.heap.size→g' k=g k):TbO (tg g' 8) w' o t:=by
 cases o with
 | none=>cases t with
  | none=>trivial
  | some t=>exact h.elim
 | some b=>cases t with
  | none=>exact h.elim
  | some t=>exact DY.mv (t:=b) h hf hs hg
def F3 (g:Nat→Nat) (w:World) (m:Nat) (l:List C0):Prop:=Bz Tryz.prog w m 300 (l.map Ht)∧g m=9
theorem F3.mv {m:Nat} {l:List C0} (h:F3 g w m l) (hf:Fp S w w') (hs:∀ k,S k→g k≠9) (hg:∀ k,k<w.heap.size→g' k=g k):F3 g' w' m l :=
 ⟨h.1.fp hf (fun e=>hs _ e h.2),(hg _ h.1.lt).trans h.2⟩
def FK (g:Nat→Nat) (w:World) (x:Nat×Value) (wt:Wt):Prop :=
 w.heap[x.1]?=some (.cells #[.int .u64 wt.id,.int .u64 wt.epoch,x.2] 172 (0,0))∧g x.1=10∧AA (tg g 10) w 3 1 x.2 (wt.calls.map Hu)
structure Cu (g:Nat→Nat) (w:World) (wv:Value) (ws:List (Nat×Value)) (l:List Wt):Prop where
 row:OwO (tg g 10) w 170 1 wv (ws.map fun x=>pV x.1)
 pd:F2 (FK g w) ws l
 np:(ws.map (·.1)).Nodup
 nc:ws.Pairwise fun a b=>∀ k,a.2.ownBlock=some k→b.2.ownBlock≠some k
def DP (g:Nat→Nat) (w:World) (wv:Value) (l:List Wt):Prop:=∃ ws,Cu g w wv ws l
theorem FK.mv {x:Nat×Value} {wt:Wt} (h:FK g w x wt) (hf:Fp S w w') (hs:∀ k,S k→g k≠10) (hg:∀ k,k<w.heap.size→g' k=g k):FK g' w' x wt :=
 ⟨hf.heap h.1 (fun e=>hs _ e h.2.1),(hg _ (Ah h.1)).trans h.2.1,h.2.2.mv hf hs hg⟩
theorem DP.mv {wv:Value} {l:List Wt} (h:DP g w wv l) (hf:Fp S w w') (hs:∀ k,S k→g k≠10) (hg:∀ k,k<w.heap.size→g' k=g k):DP g' w' wv l:=by
 obtain⟨ws,h⟩:=h
 exact⟨ws,((h.row.mono (M':=fun k=>tg g 10 k∧k<w.heap.size) (fun k hk h=>⟨h,hk⟩)).fp hf (fun k hk e=>hs k hk e.1)).mono (fun k _ e=>(hg k e.2).trans e.1),h.pd.imp fun x y _ _ hp=>hp.mv hf hs hg,h.np,h.nc⟩
structure Bg (g:Nat→Nat) (w:World) (c:Nat) (X:CtX) (C:Ct (Nat×Nat)):Prop where
 hc:w.heap[c]?=some (.cells (ctC C.cf C.s X C.ever).toArray 156 (0,0))
 gc:g c=1
 ar:CM g w X.ar C.slots
 dn:In g w C.slots
 pn:Fx g w X.pn C.pins
 bd:DH g w X.bd C.board
 iq:D5 g w X.iq C.cf.intake C.calls
 sn:Im g w X.sn C.seen
 st:FH g w C.s X.pv X.tv X.sv
 tb:TbO (tg g 8) w X.tb C.t
 sm:F3 g w X.sm C.seats
 wt:DP g w X.wv C.waits
variable {c:Nat} {X X':CtX} {C C':Ct (Nat×Nat)}
theorem Bg.mv (h:Bg g w c X C) (hf:Fp S w w') (hs:∀ k,S k→g k=0) (hg:∀ k,k<w.heap.size→g' k=g k):Bg g' w' c X C:=by
 have hn:∀ i,i≠0→∀ k,S k→g k≠i:=fun i hi k hk e=>hi ((hs k hk)▸e.symm)
 exact⟨hf.heap h.hc (fun e=>hn 1 (by decide) _ e h.gc),(hg _ (Ah h.hc)).trans h.gc,h.ar.mv hf (hn 2 (by decide)) hg,h.dn.mv hf (hn 11 (by decide)) hg,h.pn.mv hf (hn 3 (by decide)) hg,h.bd.mv hf (fun k hk=>⟨hn 4 (by decide) k hk,hn 8 (by decide) k hk⟩) hg,h.iq.mv hf (hn 5 (by decide)) hg,h.sn.mv hf (hn 6 (by decide)) hg,h.st.mv hf (hn 7 (by decide)) hg,h.tb.mv hf (hn 8 (by decide)) hg,h.sm.mv hf (hn 9 (by decide)) hg,h.wt.mv hf (hn 10 (by decide)) hg⟩
theorem Bg.le (h:Bg g w c X C) (hl:Le w w'):Bg g w' c X C:=h.mv (S:=fun _=>False) (Fp.of_le hl) (fun _ h=>h.elim) (fun _ _=>rfl)
end
end Go.Proofs.YtmcndlofaanjiaaGreat
