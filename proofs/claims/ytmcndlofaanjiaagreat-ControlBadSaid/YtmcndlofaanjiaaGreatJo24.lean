/- Texts of one claim, laid together: Bd4 Bd5 Bd6 CtB -/
import Derived.Test.YtmcndlofaanjiaaGreatJo23
import Derived.Test.YtmcndlofaanjiaaGreatJo08
import Derived.Test.YtmcndlofaanjiaaGreatJo20
import Derived.Test.YtmcndlofaanjiaaGreatJo16
import Derived.Test.YtmcndlofaanjiaaGreatJo22
/- cmd.Board: Collect,Acked. -/
namespace Go.Proofs.YtmcndlofaanjiaaGreat
open Go.RowKit
set_option linter.unusedVariables false
set_option maxRecDepth 100000
set_option maxHeartbeats 8000000
def BdS.setL (d:BdS) (l:List Nat):BdS:={ d with lasts:=l }
section
variable {M M':Nat→Prop} {w w':World} {b:Nat} {d:BdS}
theorem Bu.setL (h:Bu M w b d) {g cap i x y:Nat} {pre post:List Value} (hv:d.last=.slice (some ⟨g,0,none⟩) d.lasts.length cap) (hi:d.lasts[i]?=some x) (hpre:pre.length=i*1) (hg:w.heap[g]?=some (.cells (pre++(Et x++post)).toArray 28 (0,0)))
  (hgr:w.grownBy w' (some g)) (hg':w'.heap[g]?=some (.cells (pre++(Et y++post)).toArray 28 (0,0))) (hy:y<18446744073709551616):Bu M w' b (d.setL (d.lasts.set i y)):=by
 have hL:=h.hL
 rw[hv] at hL
 have e:(d.lasts.map Et).length=d.lasts.length:=List.length_map ..
 rw[← e] at hL
 have h2:=hL.put (i:=i) (x:=Et x) (y:=Et y) (by rw[List.getElem?_map,hi];rfl) hpre hg rfl hg'
 have hf:Fp (fun k=>k=g) w w':=Fp.of_grown hgr rfl
 obtain⟨curK,hKA,_⟩:=h.hK.hA
 refine⟨hf.heap h.hb (AS h.hb hg (by decide)),h.hT.other hgr hg (by decide),fun q hq=>?_,h.hK.fp hf (AS h.hK.hQ hg (by decide)) (AS hKA hg (by decide)),?_,h.Mb,h.Mq,h.Ma,h.dQ,h.dA,h.n1,h.n4,h.R1,h.R2,?_,fun z hz=>?_,h.lta⟩
 ·obtain⟨cur,hA,_⟩:=(h.hQ q hq).hA
  exact (h.hQ q hq).fp hf (AS (h.hQ q hq).hQ hg (by decide)) (AS hA hg (by decide))
 ·show AA M w' _ 1 d.last ((d.lasts.set i y).map Et)
  rw[hv,List.map_set,← e]
  exact h2
 ·show (d.lasts.set i y).length=d.qs.length
  rw[List.length_set];exact h.lens
 ·rcases List.mem_or_eq_of_mem_set (show z∈d.lasts.set i y from hz) with hz | rfl
  ·exact h.lt z hz
  ·exact hy
structure BdColP (M:Nat→Prop) (w:World) (b:Nat) (d:BdS) (e:Ending) (w':World):Prop where
 emp:d.acks=[]→e=.returned (.tuple #[.int .i64 0,.int .u64 0,.bool false])∧Le w w'
 one:∀ k ep l,d.acks=(k,ep)::l→e=.returned (.tuple #[.int .i64 k,.int .u64 ep,.bool true])∧Bu M w' b ((d.setA ((d.aF+1)%(d.qs.length*d.R)) l).setL (d.lasts.set k ep))∧Fp M w w'
theorem bdCollect (h:Bu M w b d):Calls Tryz.prog 66 #[.pointer (some ⟨b,0,none⟩)] w (BdColP M w b d):=by
 have H0:=Aa h
 have y1:w.cell? ⟨b,1,none⟩=some (.pointer (some ⟨d.aq,0,none⟩)):=Ae h.hb 1
 obtain⟨R,hR⟩:∃ R,R=BdColP M w b d:=⟨_,rfl⟩
 rw[← hR]
 have HR:=Aa hR
 have HQ:=Aa h.hK
 clear hR h
 cases hl:d.acks with
 | nil =>
  have HP:=HQ.out
  rw[hl] at HP
  have HPP:=Aa HP
  clear HP
  go_enter Tryz.func66,Tryz.ntmps66
  go_wp2_with fail
  refine (qaPop0 HPP.out).mono ?_
  rintro e w2 ⟨rfl,hb⟩
  have HL:=Aa (Le.mk hb)
  clear hb y1 HPP HQ
  go_upto_region 6 with (refine Ak rfl 271 (.tmp 5) (.tmp 15) (cs:=[.int .i64 0,.int .u64 0]) rfl rfl rfl (by kernel_rfl) (by simp[Value.oneCell']) (heap_alloc_new _ _) rfl ?_;intro w3 hn hg;have HX:=Aa hn;have HL3:=Aa (HL.out.trans (((Le.refl w2).alloc _).box1 hg (Nat.le_refl _)));clear hn hg)
  have c0:=Af HX.out 0 (.int .i64 0) rfl w3 (Le.refl _)
  have c1:=Af HX.out 1 (.int .u64 0) rfl w3 (Le.refl _)
  go_quiet (fail)
  go_wp2_with fail
  go_ret3
  rw[HR.out]
  exact⟨fun _=>⟨rfl,HL3.out.drewN _⟩,fun k ep l e=>(by rw[hl] at e;cases e)⟩
 | cons a l =>
  obtain⟨k,ep⟩:=a
  have hlt:=H0.out.lta (k,ep) (by rw[hl];exact List.mem_cons_self ..)
  have HLN:=Aa H0.out.lens
  have HP:=HQ.out
  rw[hl] at HP
  have HPP:=Aa (show QAt _ _ 2 w d.aq d.aA (d.qs.length*d.R) d.aF ([.int .i64 k,.int .u64 ep]::l.map ackC) from HP)
  clear HP
  go_enter Tryz.func66,Tryz.ntmps66
  go_wp2_with fail
  refine (qaPop1 _ _ HPP.out (by simp[Value.oneCell'])).mono ?_
  rintro e w2 ⟨rfl,hq2,hf2⟩
  have hb2:Bu M w2 b (d.setA ((d.aF+1)%(d.qs.length*d.R)) l):=H0.out.setA _ _ hq2 (fun x hx=>H0.out.lta x (by rw[hl];exact List.mem_cons_of_mem _ hx)) hf2
  have HB2:=Aa hb2
  have HF2:=Aa (hf2.mono (T:=M) fun k hk=>by rcases hk with rfl | rfl;exact H0.out.Ma.1;exact H0.out.Ma.2)
  clear hb2 hq2 hf2 y1 HPP HQ
  go_upto_region 5 with (refine Ak rfl 271 (.tmp 5) (.tmp 15) (cs:=[.int .i64 k,.int .u64 ep]) rfl rfl rfl (by kernel_rfl) (by simp[Value.oneCell']) (heap_alloc_new _ _) rfl ?_;intro w3 hn hg;have HX:=Aa hn;have HL3:=Aa (((Le.refl w2).alloc (.cells #[.int .i64 0,.int .u64 0] 271)).box1 hg (Nat.le_refl _));clear hn hg)
  obtain⟨x,hx⟩:∃ x,d.lasts[k]?=some x:=⟨_,List.getElem?_eq_getElem (show k<d.lasts.length by rw[HLN.out];exact hlt.1)⟩
  have HB3:=Aa ((HB2.out.le HL3.out).le (Le.refl w3).drew)
  obtain⟨g,cap,pre,post,hlast,hMg,hpre,hg⟩:=HB3.out.hL.cut (i:=k) (x:=Et x) (by show (d.lasts.map Et)[k]?=_;rw[List.getElem?_map,hx];rfl)
  have hlast':d.last=.slice (some ⟨g,0,none⟩) d.lasts.length cap:=by have:=hlast;rw[List.length_map] at this;exact this
  have HG:=Aa hg
  have HPRE:=Aa hpre
  have HMG:=Aa hMg
  have HLA:=Aa hlast'
  have HXX:=Aa hx
  have c0:=Af HX.out 0 (.int .i64 k) rfl w3 (Le.refl _)
  have c1:=Af HX.out 1 (.int .u64 ep) rfl w3 (Le.refl _)
  have c2:w3.cell? ⟨b,2,none⟩=some (.slice (some ⟨g,0,none⟩) d.lasts.length cap):=by rw[← hlast'];exact Ae (HB2.out.le HL3.out).hb 2
  have hkI:(k:Int)<(d.lasts.length:Int):=by rw[HLN.out];omega
  clear hg hpre hMg hlast hlast' hx
  go_still_tail 9,(by kernel_rfl)
  change wpList _ _ _ _ _ w3.drew
  go_upto_region 6 with (refine Ao rfl 28 (.tmp 26) (.tmp 25) rfl pre (v:=.int .u64 ep) (old:=.int .u64 x) (post:=post) (by rw[HPRE.out,Nat.mul_one];rfl) rfl (by kernel_rfl) rfl (by have:=HG.out;simpa[Et] using this) ?_;intro w4 hn hg;have HN4:=Aa hn;have HG4:=Aa hg;clear hn hg)
  have HX3:=Aa ((Le.refl w3).drew.heap HX.out)
  have hX4:=Ai HG4.out HX3.out (by intro e;injection e with e;exact AS HX3.out HG.out (by decide) e.symm)
  have d0:=Af hX4 0 (.int .i64 k) rfl w4 (Le.refl _)
  have d1:=Af hX4 1 (.int .u64 ep) rfl w4 (Le.refl _)
  clear hX4 c0 c1 c2
  go_quiet (fail)
  go_wp2_with fail
  go_ret3
  rw[HR.out]
  refine⟨fun e=>(by rw[hl] at e;cases e),fun k' ep' l' e=>?_⟩
  rw[hl] at e
  injection e with e1 e2
  injection e1 with e3 e4
  subst e2 e3 e4
  refine⟨rfl,(HB3.out.setL HLA.out HXX.out HPRE.out (by have:=HG.out;simpa[Et] using this) HG4.out (by have:=HN4.out;simpa[Et] using this) hlt.2).le ((Le.refl _).drewN _),(HF2.out.trans (Fp.of_le (HL3.out.trans (Le.refl w3).drew))).trans ((Fp.of_grown HG4.out HMG.out).trans (Fp.of_le ((Le.refl _).drewN _)))⟩
end
def Iz:List Nat→Nat
 | []=>0
 | x::l=>l.foldl min x
theorem minL_succ {l:List Nat} {k x:Nat} (hk:1≤k) (h:l[k]?=some x):Iz (l.take (k+1))=min (Iz (l.take k)) x:=by
 cases l with
 | nil=>simp at h
 | cons a l =>
  obtain⟨j,rfl⟩:∃ j,k=j+1:=⟨k - 1,by omega⟩
  rw[List.getElem?_cons_succ] at h
  rw[List.take_succ_cons,List.take_succ_cons]
  show (l.take (j+1)).foldl min a=min ((l.take j).foldl min a) x
  rw[List.take_add_one,h,List.foldl_append]
  rfl
theorem min64 (w:World) (g:Nat) (l:List Nat) (cap:Nat) (hc:∀ (j:Nat) (x:Nat),l[j]?=some x→w.cell? ⟨g,j,none⟩=some (.int .u64 x)) (h1:1≤l.length) (hn:l.length≤1000) :
  Calls Tryz.prog 133 #[.slice (some ⟨g,0,none⟩) l.length cap] w (Ax w (.int .u64 (Iz l))):=by
 have h1I:¬ (l.length:Int)<1:=by omega
 have h0I:(0:Int)<(l.length:Int):=by omega
 have HC:=Aa hc
 have c0:=hc 0 l[0] (List.getElem?_eq_getElem h1)
 have e0:Iz (l.take 1)=l[0]:=by
  cases l with
  | nil=>simp at h1
  | cons a l=>rfl
 obtain⟨R,hR⟩:∃ R,R=Ax w (.int .u64 (Iz l)):=⟨_,rfl⟩
 rw[← hR]
 have HR:=Aa hR
 have HE0:=Aa e0
 clear hR hc e0
 go_enter Tryz.func133,Tryz.ntmps133
 go_wp2_with fail
 clear c0
 go_loopw [3,4] (fun s3 s4 wr=>∃ k:Nat,1≤k∧k≤l.length∧s4=.int .i64 k∧s3=.int .u64 (Iz (l.take k):Nat)∧Hd (Le w wr)) (fun _ j _=>l.length - (intOf j).toNat)
 case atStart=>exact⟨1,Nat.le_refl _,h1,rfl,by rw[HE0.out],Aa (Le.refl _)⟩
 case round =>
  obtain⟨k,hk1,hk,rfl,rfl,HLE⟩:=hrel
  rcases Nat.lt_or_ge k l.length with hlt | hge
  ·have hltI:(k:Int)<(l.length:Int):=by omega
   have e:=List.getElem?_eq_getElem hlt
   have cc:=HLE.out.cell (HC.out k _ e)
   have q1:IntKind.i64.wrap ((k:Int)+1)=((k+1:Nat):Int):=by rw[IntWalk.i64_in _ (by omega)];simp
   have HF:=Aa (minL_succ hk1 e)
   clear e
   generalize Iz (l.take k)=X at *
   generalize l[k]=K at *
   go_wp2_with fail
   refine⟨⟨k+1,by omega,by omega,by simp,?_,HLE⟩,by simp only[intOf];omega⟩
   rw[HF.out]
   congr 1
   repeat' split
   all_goals omega
  ·have hgeI:¬ (k:Int)<(l.length:Int):=by omega
   have hkl:=Aa (List.take_of_length_le hge)
   go_wp2_with fail
   rw[HR.out]
   exact⟨by rw[hkl.out],HLE.out.out⟩
section
variable {M M':Nat→Prop} {w w':World} {b:Nat} {d:BdS}
theorem bdAcked (h:Bu M w b d):Calls Tryz.prog 67 #[.pointer (some ⟨b,0,none⟩)] w (Ax w (.int .u64 (Iz d.lasts))):=by
 have hl1:1≤d.lasts.length:=by have:=h.n1;have:=h.lens;omega
 have hl4:d.lasts.length≤4:=by have:=h.n4;have:=h.lens;omega
 obtain⟨A,cap,hv,hc,hn,_⟩:=h.hL.cells
 obtain⟨g,cap',pre,post,hv',_,_,_⟩:=h.hL.cut (i:=0) (x:=Et (d.lasts[0]'(by omega))) (by rw[List.getElem?_map,List.getElem?_eq_getElem (show 0<d.lasts.length by omega)];rfl)
 rw[List.length_map] at hv'
 have y2:w.cell? ⟨b,2,none⟩=some (.slice (some ⟨g,0,none⟩) d.lasts.length cap'):=by rw[← hv'];exact Ae h.hb 2
 have HM:=Aa (min64 w g d.lasts cap' (fun j x hj=>by
  obtain⟨g2,c2,pre2,post2,hv2,_,hpre2,hg2⟩:=h.hL.cut (i:=j) (x:=Et x) (by rw[List.getElem?_map,hj];rfl)
  rw[hv'] at hv2
  injection hv2 with e1 _ _
  injection e1 with e1
  injection e1 with e1 _ _
  subst e1
  rw[Ae hg2,List.getElem?_toArray,List.getElem?_append_right (by omega),hpre2]
  simp[Et]) (by omega) (by omega))
 clear h hc hn hv hv'
 go_enter Tryz.func67,Tryz.ntmps67
 go_wp2_with fail
 refine HM.out.mono ?_
 rintro e w2 ⟨rfl,hb⟩
 go_wp2_with fail
 go_ret
 exact⟨rfl,hb⟩
end
theorem slU64:SlT Tryz.prog 75 28 (.int .u64 0) 1 8:=⟨Tryz.underlying75,by kernel_rfl,rfl,by omega⟩
theorem slQp:SlT Tryz.prog 272 275 (.pointer none) 1 8:=⟨Tryz.underlying272,by kernel_rfl,rfl,by omega⟩
theorem made_u64 (n:Nat):(madeCells (Value.int .u64 0).cells (n*1)).toList=(List.replicate n (Et 0)).flatten:=by
 have:=toList_madeCells_one (.int .u64 0) (n*1)
 rw[show (Value.int .u64 0).cells=#[.int .u64 0] from rfl,this,Nat.mul_one]
 clear this
 induction n with
 | zero=>rfl
 | succ n ih=>rw[List.replicate_succ,List.replicate_succ,List.flatten_cons,← ih];rfl
structure QNew (n:Nat) (W:World) (Q A R:Nat):Prop where
 q:QAt 359 64 1 W Q A R 0 []
 Q:n≤Q
 A:n≤A
structure KNew (n:Nat) (W:World) (Q A R:Nat):Prop where
 q:QAt 356 271 2 W Q A R 0 []
 Q:n≤Q
 A:n≤A
theorem QNew.le {n:Nat} {w w':World} {Q A R:Nat} (h:QNew n w Q A R) (hl:Le w w'):QNew n w' Q A R:=⟨h.q.le hl,h.Q,h.A⟩
theorem KNew.le {n:Nat} {w w':World} {Q A R:Nat} (h:KNew n w Q A R) (hl:Le w w'):KNew n w' Q A R:=⟨h.q.le hl,h.Q,h.A⟩
theorem QNew.gr {n:Nat} {w w':World} {Q A R:Nat} {row:Option Nat} (h:QNew n w Q A R) (hg:Gr row w w') (hr:∀ k,row=some k→k<n):QNew n w' Q A R :=
 ⟨h.q.fp (Fp.of_gr hg) (fun e=>by have:=hr _ e;have:=h.Q;omega) (fun e=>by have:=hr _ e;have:=h.A;omega),h.Q,h.A⟩
structure Ep (w0 wr:World) (B n R j:Nat) (rv lv:Value) (aq aA:Nat) (qs:List QS):Prop where
 hB:wr.heap[B]?=some (.cells #[rv,.pointer (some ⟨aq,0,none⟩),lv] 274 (0,0))
 nB:w0.heap.size≤B
 hR:AA (fun k=>w0.heap.size≤k) wr 275 1 rv (qs.map fun q=>pV q.Q)
 hQ:∀ q∈qs,Iv wr R q∧q.l=[]∧w0.heap.size≤q.Q∧w0.heap.size≤q.A
 hK:QAt 356 271 2 wr aq aA (n*R) 0 []
 nK:w0.heap.size≤aq∧w0.heap.size≤aA
 hL:AA (fun k=>w0.heap.size≤k) wr 28 1 lv (List.replicate n (Et 0))
 dQ:(qs.map (·.Q)).Nodup
 dA:(qs.map (·.A)).Nodup
 len:qs.length=j
 le:Le w0 wr
theorem Ep.step {w0 wr wz w9:World} {B n R j:Nat} {rv lv x8:Value} {aq aA Q8 A8:Nat} {qs:List QS} (h:Ep w0 wr B n R j rv lv aq aA qs) (ha:EB wr.drew 275 1 rv (qs.map fun q=>pV q.Q) (pV Q8) x8 wz) (h6:AA (fun k=>w0.heap.size≤k) wr.drew 275 1 rv (qs.map fun q=>pV q.Q)) (hn:QNew wr.drew.heap.size wz Q8 A8 R)
  (hbz:wz.heap[B]?=some (.cells #[rv,.pointer (some ⟨aq,0,none⟩),lv] 274 (0,0))) (h9:w9.heap[B]?=some (.cells #[x8,.pointer (some ⟨aq,0,none⟩),lv] 274 (0,0))) (hg:wz.grownBy w9 (some B)):Ep w0 w9 B n R (j+1) x8 lv aq aA (qs++[⟨Q8,A8,0,[]⟩]):=by
 have hs0:=h.le.size
 have hsd:wr.drew.heap.size=wr.heap.size:=rfl
 have fz:Fp (fun k=>rv.ownBlock=some k) wr.drew wz:=Fp.of_gr ha.gr
 have f9:Fp (fun k=>k=B) wz w9:=Fp.of_grown hg rfl
 have tt:∀ {k:Nat} {cs:Array Value} {T:TypeId} {fr:Nat×Nat},wr.drew.heap[k]?=some (.cells cs T fr)→T≠275→T≠274→w9.heap[k]?=some (.cells cs T fr):=fun {k cs T fr} hk h1 h2=>by
  have h3:=fz.heap hk (fun e=>h6.row_ne hk (fun e=>h1 e.symm) e)
  exact f9.heap h3 (AS h3 hbz h2)
 have qq:∀ {TQ TE s Q A R f:Nat} {vs:List (List Value)},QAt TQ TE s wr Q A R f vs→TQ≠275→TQ≠274→TE≠275→TE≠274→QAt TQ TE s w9 Q A R f vs:=fun {TQ TE s Q A R f vs} h h1 h2 h3 h4=>by
  have h5:=h.le (Le.refl wr).drew
  obtain⟨cur,hA,hl,hc⟩:=h5.hA
  exact⟨tt h5.hQ h1 h2,⟨cur,tt hA h3 h4,hl,hc⟩,h.fR,h.nR,h.len,h.R1,h.ne⟩
 have hle:Le w0 w9:=Fp.le_new (Fp.le_new (h.le.trans (Le.refl wr).drew) fz (fun k hk=>h6.blk k hk)) f9 (fun k hk=>hk▸h.nB)
 refine⟨h9,h.nB,?_,fun q hq=>?_,qq h.hK (by decide) (by decide) (by decide) (by decide),h.nK,?_,?_,?_,by rw[List.length_append,h.len];rfl,hle⟩
 ·have:=(ha.ownR h6 rfl).other hg hbz (by decide)
  rw[List.map_append]
  exact this.mono fun k _ hk=>hk.elim _root_.id fun hk=>Nat.le_trans hs0 hk
 ·rcases List.mem_append.1 hq with hq | hq
  ·obtain⟨a,b,c,d⟩:=h.hQ q hq
   exact⟨qq a (by decide) (by decide) (by decide) (by decide),b,c,d⟩
  ·rw[List.mem_singleton] at hq
   subst hq
   obtain⟨cur,hA,_⟩:=hn.q.hA
   exact⟨hn.q.fp f9 (AS hn.q.hQ hbz (by decide)) (AS hA hbz (by decide)),rfl,Nat.le_trans hs0 hn.Q,Nat.le_trans hs0 hn.A⟩
 ·exact ((h.hL.le (Le.refl wr).drew).keep h6 (by decide) fz).other hg hbz (by decide)
 ·rw[List.map_append]
  refine List.nodup_append.2 ⟨h.dQ,by simp,fun a ha b hb e=>?_⟩
  obtain⟨q,hq,rfl⟩:=List.mem_map.1 ha
  simp only[List.map_cons,List.map_nil,List.mem_singleton] at hb
  have:=Ah (h.hQ q hq).1.hQ
  have:=hn.Q
  omega
 ·rw[List.map_append]
  refine List.nodup_append.2 ⟨h.dA,by simp,fun a ha b hb e=>?_⟩
  obtain⟨q,hq,rfl⟩:=List.mem_map.1 ha
  simp only[List.map_cons,List.map_nil,List.mem_singleton] at hb
  obtain⟨cur,hA,_⟩:=(h.hQ q hq).1.hA
  have:=Ah hA
  have:=hn.A
  omega
def BdNewP (w:World) (n R:Nat) (e:Ending) (w':World):Prop :=
 ∃ b d,e=.returned (.pointer (some ⟨b,0,none⟩))∧Bu (fun k=>w.heap.size≤k) w' b d∧Le w w'∧d.R=R∧d.qs.length=n∧(∀ q∈d.qs,q.l=[])∧d.acks=[]∧d.lasts=List.replicate n 0
theorem Ep.done {w0 wr:World} {B n R:Nat} {rv lv:Value} {aq aA:Nat} {qs:List QS} (h:Ep w0 wr B n R n rv lv aq aA qs) (h1:1≤n) (h2:n≤4) (h3:1≤R) (h4:R≤1000):BdNewP w0 n R (.returned (.pointer (some ⟨B,0,none⟩))) wr:=by
 refine⟨B,⟨R,aq,aA,0,rv,lv,qs,[],List.replicate n 0⟩,rfl,⟨h.hB,h.hR,fun q hq=>(h.hQ q hq).1,?_,?_,h.nB,fun q hq=>(h.hQ q hq).2.2,h.nK,h.dQ,h.dA,?_,?_,h3,h4,?_,?_,?_⟩,h.le,rfl,h.len,fun q hq=>(h.hQ q hq).2.1,rfl,rfl⟩
 ·show QAt _ _ 2 wr aq aA (qs.length*R) 0 _
  rw[h.len];exact h.hK
 ·show AA _ wr _ 1 lv ((List.replicate n 0).map Et)
  rw[List.map_replicate];exact h.hL
 ·show 1≤qs.length
  rw[h.len];exact h1
 ·show qs.length≤4
  rw[h.len];exact h2
 ·show (List.replicate n 0).length=qs.length
  rw[List.length_replicate,h.len]
 ·intro x hx;rw[List.eq_of_mem_replicate (show x∈List.replicate n 0 from hx)];omega
 ·intro x hx;cases hx
theorem bdNew (w:World) (n R:Nat) (h1:1≤n) (h2:n≤4) (h3:1≤R) (h4:R≤1000):Calls Tryz.prog 52 #[.int .i64 n,.int .i64 R] w (BdNewP w n R):=by
 have i1:¬ (n:Int)<1:=by omega
 have i2:¬ 4<(n:Int):=by omega
 have i3:¬ (R:Int)<1:=by omega
 have i4:¬ 1000<(R:Int):=by omega
 have q0:IntKind.i64.wrap ((n:Int)*R)=((n*R:Nat):Int):=by have:=Nat.mul_le_mul h2 h4;rw[IntWalk.i64_in _ (by rw[← Int.natCast_mul];omega),Int.natCast_mul]
 obtain⟨P,hP⟩:∃ P,P=BdNewP w n R:=⟨_,rfl⟩
 rw[← hP]
 have HP:=Aa hP
 clear hP
 obtain⟨w1,hw1⟩:∃ w1,w1=w:=⟨_,rfl⟩
 rw[← hw1] at HP ⊢
 clear hw1
 go_enter Tryz.func52,Tryz.ntmps52
 go_upto_region 3 with fail
 refine' AW 8 8 20 Le (IsD _::IsD _::IsD _::(fun _ v W=>∃ Q A,v=.pointer (some ⟨Q,0,none⟩)∧KNew w1.drew.heap.size W Q A (n*R))::IsD _::(fun _ v W=>AA (fun k=>w1.drew.heap.size≤k) W 28 1 v (List.replicate n (Et 0)))::(fun _ v W=>∃ Q A l,v=.agg #[.slice none 0 0,.pointer (some ⟨Q,0,none⟩),l]∧KNew w1.drew.heap.size W Q A (n*R)∧AA (fun k=>w1.drew.heap.size≤k) W 28 1 l (List.replicate n (Et 0)))::(fun _ v W=>∃ Q A l B,v=.pointer (some ⟨B,0,none⟩)∧W.heap[B]?=some (.cells #[.slice none 0 0,.pointer (some ⟨Q,0,none⟩),l] 274 (0,0))∧w1.drew.heap.size≤B∧KNew w1.drew.heap.size W Q A (n*R)∧AA (fun k=>w1.drew.heap.size≤k) W 28 1 l (List.replicate n (Et 0)))::[]) ([]::[]::[0,1]::[2]::[]::[4]::[3,5]::[6]::[]) (by kernel_rfl) (by kernel_rfl) (by rfl) (by kernel_rfl) (by kernel_rfl) Le.refl (fun _ _ _ h h'=>h.trans h') ⟨StD.is,StD.is,StD.is,(fun _ _ _ _ hb h=>Exists.elim h fun Q h=>Exists.elim h fun A h=>⟨Q,A,h.1,h.2.le hb⟩),StD.is,(fun _ _ _ _ hb h=>h.le hb),(fun _ _ _ _ hb h=>Exists.elim h fun Q h=>Exists.elim h fun A h=>Exists.elim h fun l h=>⟨Q,A,l,h.1,h.2.1.le hb,h.2.2.le hb⟩),(fun _ _ _ _ hb h=>Exists.elim h fun Q h=>Exists.elim h fun A h=>Exists.elim h fun l h=>Exists.elim h fun B h=>⟨Q,A,l,B,h.1,hb.heap h.2.1,h.2.2.1,h.2.2.2.1.le hb,h.2.2.2.2.le hb⟩),trivial⟩ ?m3
 case m3 =>
  simp (maxSteps:=100000000) only [AR,Hr,AU,AH,AE,B6,AD,Am,Au,List.set_cons_succ,List.set_cons_zero,List.map_cons,List.getElem?_cons_zero,List.getElem?_cons_succ,Option.getD_some,List.map_nil,List.take_succ_cons,List.take_zero,List.drop_succ_cons,List.drop_zero,List.cons_append,List.nil_append,List.length_cons,List.length_nil,Nat.reduceAdd]
  intro x0 x1 x2 x3 x4 x5 x6 x7
  refine⟨⟨?_,?_,?_,?_,?_,?_,?_,?_,trivial⟩,?_⟩
  ·intro wo hw KQ hK;go_simp;exact hK _ _ .r .m
  ·intro wo hw KQ hK;go_simp;exact hK _ _ .r .m
  ·intro wo hw h0 h1 KQ hK;cases h0;cases h1;go_simp;exact hK _ _ .r .m
  ·intro wo hw h2 KQ hK;cases h2;go_simp;refine (qaNew_any wo (n*R) (by have:=Nat.mul_le_mul h1 h3;omega) (by have:=Nat.mul_le_mul h2 h4;omega)).mono ?_;rintro e w' ⟨Q,A,rfl,hq,hle,hQ,hA⟩;exact hK _ _ hle ⟨Q,A,rfl,hq,Nat.le_trans hw.size hQ,Nat.le_trans hw.size hA⟩
  ·intro wo hw KQ hK;go_simp;exact hK _ _ .r .m
  ·intro wo hw h4 KQ hK;cases h4;refine cast (if_pos (show Region.wanted _ _=true from rfl)).symm ?_;refine wp_make slU64 _ _ rfl (kl:=.i64) (kc:=.i64) (n:=n) rfl rfl (by omega) (by omega) ?_;intro w' ho hle;exact hK _ _ hle ((AA.of_base (ys:=(List.replicate n (Et 0))) (by rw[made_u64] at ho;exact ho) (by rw[List.length_replicate]) (by intro y hy;rw[List.eq_of_mem_replicate hy];rfl)).mono (fun k _ hk=>Nat.le_trans hw.size hk))
  ·intro wo hw h3 h5 KQ hK;obtain⟨Q3,A3,rfl,HN3⟩:=h3;obtain⟨A12,c12,hv12,_⟩:=AA.cells h5;rw[List.length_replicate] at hv12;subst hv12;go_simp;exact hK _ _ (Le.refl _) ⟨_,_,_,rfl,HN3,h5⟩
  ·intro wo hw h6 KQ hK;obtain⟨Q6,A6,l6,rfl,HN6,HO6⟩:=h6;have h16:=AF HO6;go_simp;exact hK _ _ ((Le.refl _).alloc _) ⟨_,_,_,_,rfl,heap_alloc_new _ _,hw.size,HN6.le ((Le.refl _).alloc _),HO6.le ((Le.refl _).alloc _)⟩
  ·intro wz hz h0 h1 h2 h3 h4 h5 h6 h7;cases h0;cases h1;cases h2;obtain⟨Q3,A3,rfl,HN3⟩:=h3;cases h4;obtain⟨Q6,A6,l6,rfl,HN6,HO6⟩:=h6;obtain⟨Q7,A7,l7,B7,rfl,HX7,HS7,HN7,HO7⟩:=h7;skip
   have HI:=Aa (show Ep w1 wz B7 n R 0 (.slice none 0 0) l7 Q7 A7 [] from ⟨HX7,HS7,AA.nil,fun q hq=>by simp at hq,HN7.q,⟨HN7.Q,HN7.A⟩,HO7,by simp,by simp,rfl,(Le.refl w1).drew.trans hz⟩)
   generalize l7=lv at *
   generalize Q7=aq at *
   generalize A7=aA at *
   generalize B7=B at *
   clear HX7 HN7 HO7 HS7 HN3 HN6 HO6 hz h5
   go_wp2_with fail
   go_loopw [29] (fun i wr=>∃ (j:Nat) (rv:Value) (qs:List QS),j≤n∧i=.int .i64 j∧Hd (Ep w1 wr B n R j rv lv aq aA qs)) (fun i _=>n - (intOf i).toNat)
   case atStart=>exact⟨0,_,[],Nat.zero_le _,rfl,HI⟩
   case round =>
    obtain⟨j,rv,qs,hj,rfl,HW⟩:=hrel
    rcases Nat.lt_or_ge j n with hlt | hge
    ·have hltI:(j:Int)<(n:Int):=by omega
     have q1:IntKind.i64.wrap ((j:Int)+1)=((j+1:Nat):Int):=by rw[IntWalk.i64_in _ (by omega)];simp
     have hql:=HW.out.len
     go_upto_region 6 with fail
     have HB6:=Aa ((Le.refl wr).drew.heap HW.out.hB)
     have HR6:=Aa (HW.out.hR.le (Le.refl wr).drew)
     have HLT:=Aa (fun k (hk:rv.ownBlock=some k)=>HR6.out.lt hk)
     have HNE:=Aa (HR6.out.row_ne HB6.out (by decide))
     refine' AB 8 11 11 31 Le (Gr rv.ownBlock) (IsD _::IsD _::IsD _::IsD _::IsD _::IsD _::(fun _ v W=>∃ Q A,v=.pointer (some ⟨Q,0,none⟩)∧QNew wr.drew.heap.size W Q A R)::(fun _ v W=>∃ Q A,BsF rv.ownBlock (pV Q) 275 v W∧QNew wr.drew.heap.size W Q A R)::(fun _ v W=>∃ Q A,EB wr.drew 275 1 rv (qs.map fun q=>pV q.Q) (pV Q) v W∧QNew wr.drew.heap.size W Q A R)::IsD _::IsD _::[]) ([]::[]::[1]::[2]::[3]::[]::[5]::[6]::[4,7]::[0]::[9]::[]) (by kernel_rfl) (by kernel_rfl) (by rfl) (by kernel_rfl) (by kernel_rfl) Le.refl (fun _ _ _ h h'=>h.trans h') (fun _ _ _ h h'=>h.trans h') (fun _ _ h=>Gr.of_le h) ⟨StQ.is,StQ.is,StQ.is,StQ.is,StQ.is,StQ.is,(fun _ _ _ _ hb h=>Exists.elim h fun Q h=>Exists.elim h fun A h=>⟨Q,A,h.1,h.2.gr hb HLT.out⟩),(fun _ _ _ _ hb h=>Exists.elim h fun Q h=>Exists.elim h fun A h=>⟨Q,A,BsF.gr h.1 hb,h.2.gr hb HLT.out⟩),(fun _ _ _ _ hb h=>Exists.elim h fun Q h=>Exists.elim h fun A h=>⟨Q,A,EB.le h.1 hb,h.2.le hb⟩),StQ.is,StQ.is,trivial⟩ ?m6
     case m6 =>
      simp (maxSteps:=100000000) only [AR,DU,Nat.reduceBEq,cond_true,cond_false,AU,AH,AE,B6,AD,Am,Au,List.set_cons_succ,List.set_cons_zero,List.map_cons,List.getElem?_cons_zero,List.getElem?_cons_succ,Option.getD_some,List.map_nil,List.take_succ_cons,List.take_zero,List.drop_succ_cons,List.drop_zero,List.cons_append,List.nil_append,List.length_cons,List.length_nil,Nat.reduceAdd]
      intro x0 x1 x2 x3 x4 x5 x6 x7 x8 x9 x10
      refine⟨⟨?_,?_,?_,?_,?_,?_,?_,?_,?_,?_,?_,trivial⟩,?_⟩
      ·intro wo hw KQ hK;go_simp;exact hK _ _ .r .m
      ·intro wo hw KQ hK;go_simp;exact hK _ _ .r .m
      ·intro wo hw h1 KQ hK;cases h1;go_simp;exact hK _ _ .r .m
      ·intro wo hw h2 KQ hK;cases h2;go_simp;exact hK _ _ .r .m
      ·intro wo hw h3 KQ hK;cases h3;have kk:=Af (hw.heap HB6.out HNE.out) 0 (rv) rfl wo (Le.refl _);go_simp;exact hK _ _ .r .m
      ·intro wo hw KQ hK;go_simp;exact hK _ _ .r .m
      ·intro wo hw h5 KQ hK;cases h5;go_simp;refine (qtNew_any wo R h3 (by omega)).mono ?_;rintro e w' ⟨Q,A,rfl,hq,hle,hQ,hA⟩;exact hK _ _ hle ⟨Q,A,rfl,hq,Nat.le_trans hw.size hQ,Nat.le_trans hw.size hA⟩
      ·intro wo hw h6 KQ hK;obtain⟨Q6,A6,rfl,HN6⟩:=h6;go_simp;exact hK _ _ ((Le.refl _).alloc _) ⟨Q6,A6,BsF.new (pV Q6) _ (fun k hk=>Nat.lt_of_lt_of_le (HLT.out k hk) hw.size),HN6.le ((Le.refl _).alloc _)⟩
      ·intro wo hw h4 h7 KQ hK;cases h4;obtain⟨Q7,A7,⟨HBS⟩,HN7⟩:=h7;refine cast (if_pos (show Region.wanted _ _=true from rfl)).symm ?_;refine Gv slQp (.tmp 35) (.tmp 38) rfl HR6.out hw rfl rfl ⟨HBS⟩ rfl (by simp[pV,Value.oneCell']) (by rw[List.length_map];omega) (by omega) ?_;intro v' w' h1 h2;exact hK _ _ h2 ⟨Q7,A7,h1,HN7.gr h2 HLT.out⟩
      ·intro wo hw h0 KQ hK;cases h0;go_simp;exact hK _ _ .r .m
      ·intro wo hw h9 KQ hK;cases h9;go_simp;exact hK _ _ .r .m
      ·intro wz hz h0 h1 h2 h3 h4 h5 h6 h7 h8 h9 h10;cases h0;cases h1;cases h2;cases h3;cases h4;cases h5;obtain⟨Q6,A6,rfl,HN6⟩:=h6;obtain⟨Q7,A7,⟨HBS⟩,HN7⟩:=h7;obtain⟨Q8,A8,⟨HAP1,HAP2,HAP3⟩,HN8⟩:=h8;cases h9;cases h10;skip
       have HAP:=Aa (show EB wr.drew 275 1 rv (qs.map fun q=>pV q.Q) (pV Q8) x8 wz from ⟨HAP1,HAP2,HAP3⟩)
       have H1C:=Aa (show x8.oneCell'=true by obtain⟨A3,cap3,e3,_,_⟩:=BF HAP1;rw[e3];rfl)
       have HBZ:=Aa (HAP.out.heap HR6.out HB6.out (by decide))
       have HN8h:=Aa HN8
       clear HAP1 HAP2 HAP3 HN8 HN7 HN6 HBS
       go_wp2_with (refine Ao rfl 272 (.tmp 41) (.tmp 39) rfl [] (v:=x8) (old:=rv) (post:=[.pointer (some ⟨aq,0,none⟩),lv]) rfl rfl (by kernel_rfl) H1C.out HBZ.out ?_;intro w9 h9 hg9;have H9:=Aa h9;have HG9:=Aa hg9;clear h9 hg9)
       have q2:IntKind.i64.wrap ((j:Int)+1)=((j+1:Nat):Int):=q1
       refine⟨⟨j+1,x8,qs++[⟨Q8,A8,0,[]⟩],hlt,by simp,Aa (HW.out.step HAP.out HR6.out HN8h.out HBZ.out H9.out HG9.out)⟩,by simp only[intOf];omega⟩
    ·have hgeI:¬ (j:Int)<(n:Int):=by omega
     obtain rfl:j=n:=by omega
     go_wp2_with fail
     rw[HP.out]
     exact HW.out.done h1 h2 h3 h4
def Hy (p:Int×Int):Value:=.agg #[.int .i64 p.1,.int .i64 p.2]
def FV (y:C0):Value:=.agg #[.int .i64 y.ref.slot,.int .u32 y.ref.turn,.int .u32 y.ssrc]
def Ht (y:C0):Value×Value:=(Hy (y.who,y.track),FV y)
def fromE (t:Trk):Value×Value:=(.int .i64 t.id,.int .i64 t.from_)
theorem subE_inj {x y:Int×Int} (h:Hy y=Hy x):y=x:=by
 simp only[Hy,Value.agg.injEq,Array.mk.injEq,List.cons.injEq,Value.int.injEq,true_and,and_true] at h
 exact Prod.ext h.1 h.2
theorem lawSub:WideMaps.KeyLaw Tryz.prog 300:=deep_law_laid Tryz.laidOutB (m:=2) (by omega) (of_decide_eq_true (by kernel_rfl)) (by kernel_rfl) (by rw[Tryz.underlying300])
theorem DW:Maps.Keyed Tryz.prog 300:=Maps.Keyed.of_law lawSub
theorem GK:Tryz.prog.cellsOf 300=2:=by kernel_rfl
theorem Hn {a b:Int} (ha:(Lit.int .i64 a).wf=true) (hb:(Lit.int .i64 b).wf=true):∃ lit,keyOf Tryz.prog 300 (Hy (a,b))=some lit:=by
 have hd:DataW.Trod (H:=Nat) (fun _=>0) Tryz.prog (World.settled Tryz.prog default) 0 (fun _=>true) true 300 (.agg #[.int .i64 a,.int .i64 b]) (.agg [.lit (.int .i64 a),.lit (.int .i64 b)]) [] :=
  ⟨2,by simp[DataW.trod,Value.cells,Tryz.underlying300,Tryz.underlying3,GK,Fk,ha,hb]⟩
 exact⟨_,(keyOf_asKey (by kernel_rfl) (by rw[Tryz.underlying300]) (by simp[Value.formed,Tryz.underlying300,GK]) hd).1⟩
theorem keyInt {a:Int} (ha:(Lit.int .i64 a).wf=true):keyOf Tryz.prog 3 (.int .i64 a)=some (.int .i64 a):=Maps.keyOf_int_mk Tryz.underlying3 ha
theorem G2:Maps.Keyed Tryz.prog 3:=Maps.int_keyed Tryz.underlying3
structure CtX where
 ar:Nat
 pn:Nat
 bd:Nat
 iq:Nat
 sn:Nat
 sm:Nat
 tb:Option Nat
 pv:Value
 tv:Value
 sv:Value
 wv:Value
def ctC (cf:Cf) (s:DS) (X:CtX) (ever:Nat):List Value :=
 [.int .i64 cf.shards,.int .i64 cf.intake,.int .i64 cf.window,.int .i64 cf.keep,.int .i64 s.mp,.int .i64 s.mt,.int .i64 s.ms,.int .i64 s.ml,
  .pointer (some ⟨X.ar,0,none⟩),.pointer (some ⟨X.pn,0,none⟩),.pointer (some ⟨X.bd,0,none⟩),.pointer (some ⟨X.iq,0,none⟩),.pointer (some ⟨X.sn,0,none⟩),
  .int .i64 s.mp,.int .i64 s.mt,.int .i64 s.ms,.int .i64 s.ml,X.pv,X.tv,X.sv,Cp X.tb,.int .u32 ever,.map (some X.sm),X.wv]
theorem FD {w:World} {c:Nat} {cs:List Value} (n:Nat) (hc:w.heap[c]?=some (.cells (.int .i64 n::cs).toArray 156 (0,0))) (h1:1≤n) (h4:n≤4) (x:Int) (hx:0≤x∧x≤1000000) :
  Calls Tryz.prog 176 #[.pointer (some ⟨c,0,none⟩),.int .i64 x] w (Ax w (.int .i64 (x%n))):=by
 have y0:w.cell? ⟨c,0,none⟩=some (.int .i64 n):=by rw[Ae hc];simp
 have hlo:=Int.emod_nonneg x (show (n:Int)≠0 by omega)
 have hlt:=Int.emod_lt_of_pos x (show (0:Int)<n by omega)
 obtain⟨r,hr⟩:∃ r,r=x%(n:Int):=⟨_,rfl⟩
 rw[← hr] at hlo hlt ⊢
 have q2:x.tmod (n:Int)=r:=by rw[hr,Int.tmod_eq_emod_of_nonneg hx.1]
 have q3:IntKind.i64.wrap r=r:=IntWalk.i64_in _ (by omega)
 have q4:((n:Int)==0)=false:=by rw[beq_eq_false_iff_ne];omega
 have q5:¬ (n:Int)=0:=by omega
 clear hc hr hlo hlt
 go_enter Tryz.func176,Tryz.ntmps176
 go_wp2_with fail
 go_ret
 exact⟨rfl,(Le.refl w).out⟩
end Go.Proofs.YtmcndlofaanjiaaGreat
