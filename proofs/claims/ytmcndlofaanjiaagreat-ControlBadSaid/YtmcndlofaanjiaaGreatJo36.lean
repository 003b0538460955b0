/- Texts of one claim, laid together: CtE CtF CtN -/
import Derived.Test.YtmcndlofaanjiaaGreatJo27
import Derived.Test.YtmcndlofaanjiaaGreatJo34
import Derived.Test.YtmcndlofaanjiaaGreatJo28
import Derived.Test.YtmcndlofaanjiaaGreatJo35
import Derived.Test.YtmcndlofaanjiaaGreatJo20
import Derived.Test.YtmcndlofaanjiaaGreatJo30
/- control.Accept,part by part: the queue's first call,requests that were done,a request that waits. -/
namespace Go.Proofs.YtmcndlofaanjiaaGreat
open Go.RowKit
set_option linter.unusedVariables false
set_option maxRecDepth 100000
set_option maxHeartbeats 8000000
theorem Gs (l:List UInt8):(l.map u8C).flatten=u8s l:=by
 induction l with
 | nil=>rfl
 | cons x l ih=>rw[List.map_cons,List.flatten_cons,ih];rfl
section
variable {M:Nat→Prop} {w w':World} {v:Value}
theorem AA.rsl8 {b:List UInt8} (h:AA M w 5 1 v (b.map u8C)):RSl 1 RU8 w b v:=by
 have h1:=h.own
 rw[Gs] at h1
 exact DA h1
theorem nm1_lt (s:List UInt8×Int):nm s 1<256:=Fz s 1 (by omega)
theorem prRq_len (l:List UInt8):(CK l).ssrcs.length≤255:=by
 unfold CK
 split
 ·have:=nm1_lt (q8 l)
  simp only[rq,List.length_map,List.length_range]
  omega
 ·exact Nat.zero_le _
def dnC (d:Dn1) (sv:Value):List Value:=[.int .i64 d.call,.int .u64 d.id,.int .i64 d.req.kind,.int .i64 d.req.who,.int .i64 d.req.room,.int .i64 d.req.rights,.int .i64 d.req.track,sv,.int .i64 d.req.layer,.int .i64 d.req.tid,.int .i64 d.e]
def Cg (M:Nat→Prop) (w:World) (v:Value) (ds:List Dn1):Prop:=(ds=[]∧v=.slice none 0 0)∨∃ d gd A cap,ds=[d]∧v=.slice (some ⟨gd,0,none⟩) 1 1∧M gd∧w.heap[gd]?=some (.cells (dnC d (.slice A d.req.ssrcs.length cap)).toArray 78 (0,0))∧AA M w 110 1 (.slice A d.req.ssrcs.length cap) (d.req.ssrcs.map DI)
theorem Cg.fp {S:Nat→Prop} {ds:List Dn1} (h:Cg M w v ds) (hf:Fp S w w') (hs:∀ k,S k→¬ M k):Cg M w' v ds:=by
 rcases h with h | ⟨d,gd,A,cap,h1,h2,h3,h4,h5⟩
 ·exact .inl h
 ·exact .inr ⟨d,gd,A,cap,h1,h2,h3,hf.heap h4 (fun e=>hs _ e h3),h5.fp hf hs⟩
theorem Cg.mono {M':Nat→Prop} {ds:List Dn1} (h:Cg M w v ds) (hm:∀ k,k<w.heap.size→M k→M' k):Cg M' w v ds:=by
 rcases h with h | ⟨d,gd,A,cap,h1,h2,h3,h4,h5⟩
 ·exact .inl h
 ·exact .inr ⟨d,gd,A,cap,h1,h2,hm _ (Ah h4) h3,h4,h5.mono hm⟩
end
section
variable {g g':Nat→Nat} {w w':World} {c:Nat} {X:CtX} {C:Ct (Nat×Nat)}
theorem ctPop0 (h:Bg g w c X C) (hc:C.calls=[]):Calls Tryz.prog 56 #[.pointer (some ⟨X.iq,0,none⟩)] w (Ax w (.tuple #[.agg #[.int .i64 0,.slice none 0 0],.bool false])):=by
 obtain⟨qA,qF,vs,hq⟩:=h.iq
 have e:=hq.vs.len
 rw[hc] at e
 have e:vs=[]:=List.eq_nil_of_length_eq_zero e
 subst e
 exact qcPop0 hq.qa
theorem ctPop1 (h:Bg g w c X C) {n:Int} {b:List UInt8} {l:List (Int×List UInt8)} (hc:C.calls=(n,b)::l):∃ bv,Calls Tryz.prog 56 #[.pointer (some ⟨X.iq,0,none⟩)] w fun e w'=>e=.returned (.tuple #[.agg #[.int .i64 n,bv],.bool true])∧Bj g w c X g w' X { C with calls:=l }∧AA (tg g 5) w' 5 1 bv (b.map u8C):=by
 obtain⟨qA,qF,vs,hq⟩:=h.iq
 have hvs:=hq.vs
 rw[hc] at hvs
 obtain⟨v,vs',rfl,⟨bv,rfl,ho⟩,ht⟩:=hvs.two
 refine⟨bv,(qcPop1 (.int .i64 n) bv hq.qa (by
  intro u hu
  simp only[List.mem_cons,List.not_mem_nil,or_false] at hu
  rcases hu with rfl | rfl
  ·rfl
  ·exact AF ho)).mono ?_⟩
 rintro e w' ⟨rfl,hq',hf⟩
 have hs:∀ k,qS X.iq qA k→g k=5:=fun k hk=>by rcases hk with rfl | rfl;exact hq.gq;exact hq.gA
 refine⟨rfl,h.setCalls hf hs (fun _ _=>rfl) l ⟨qA,_,vs',hq',hq.gq,hq.gA,ht.imp fun v x _ _ hv=>?_⟩,ho.ofQ hq.qa (by decide) (by decide) hf⟩
 obtain⟨bv,e,ho⟩:=hv
 exact⟨bv,e,ho.ofQ hq.qa (by decide) (by decide) hf⟩
theorem ctFind (h:Bg g w c X C) (id:Nat) (hid:id<18446744073709551616):Calls Tryz.prog 57 #[.pointer (some ⟨X.sn,0,none⟩),.int .u64 id] w (Ax w (.tuple #[.string (str (((C.seen.find id).getD none).getD [])),.bool ((C.seen.find id).getD none).isSome,.bool (C.seen.find id).isSome])):=by
 obtain⟨mp,ov,hd⟩:=h.sn
 exact ddFind hd id hid
theorem ctStart (h:Bg g w c X C) (id:Nat) (hid:id<18446744073709551616):Calls Tryz.prog 59 #[.pointer (some ⟨X.sn,0,none⟩),.int .u64 id] w fun e w'=>e=.returned (.int .i64 (C.seen.start id).2)∧Fp (fun k=>tg g 6 k∧k<w.heap.size) w w'∧Bj g w c X (Bn g w.heap.size 6) w' X { C with seen:=(C.seen.start id).1 }:=by
 obtain⟨mp,ov,hd⟩:=h.sn
 refine (ddStart (hd.mono (M':=fun k=>tg g 6 k∧k<w.heap.size) fun k hk h=>⟨h,hk⟩) id hid).mono ?_
 rintro e w' ⟨rfl,⟨ov',hd'⟩,hf⟩
 exact⟨rfl,hf,h.setSeen (hf.mono fun k hk=>hk.1) (fun k hk=>hk) Az _ ⟨mp,ov',hd'.mono fun k _ hk=>hk.elim (fun e=>(Az k e.2).trans e.1) (fun e=>AM e)⟩⟩
theorem Bg.setWv {S:Nat→Prop} (h:Bg g w c X C) (hf:Fp S w w') (hs:∀ k,S k→g k=1∨g k=10) (hg:∀ k,k<w.heap.size→g' k=g k) {wv:Value} {l:List Wt} (hb:w'.heap[c]?=some (.cells (ctC C.cf C.s { X with wv:=wv } C.ever).toArray 156 (0,0))) (hw:DP g' w' wv l):Bj g w c X g' w' { X with wv:=wv } { C with waits:=l }:=by
 have hn:∀ j,j≠1→j≠10→∀ k,S k→g k≠j:=fun j h1 h2 k hk e=>by
  rcases hs k hk with e1 | e1<;>omega
 exact⟨⟨hb,(hg _ (Ah h.hc)).trans h.gc,h.ar.mv hf (hn 2 (by decide) (by decide)) hg,h.dn.mv hf (hn 11 (by decide) (by decide)) hg,h.pn.mv hf (hn 3 (by decide) (by decide)) hg,h.bd.mv hf (fun k hk=>⟨hn 4 (by decide) (by decide) k hk,hn 8 (by decide) (by decide) k hk⟩) hg,h.iq.mv hf (hn 5 (by decide) (by decide)) hg,h.sn.mv hf (hn 6 (by decide) (by decide)) hg,h.st.mv hf (hn 7 (by decide) (by decide)) hg,h.tb.mv hf (hn 8 (by decide) (by decide)) hg,h.sm.mv hf (hn 9 (by decide) (by decide)) hg,hw⟩,hg,rfl,rfl,rfl,hf.mono (fun k hk=>hn 0 (by decide) (by decide) k hk)⟩
theorem AA.blkT {M:Nat→Prop} {T s:Nat} {v:Value} {xs:List (List Value)} (h:AA M w T s v xs) {k:Nat} (hk:v.ownBlock=some k):∃ cs,w.heap[k]?=some (.cells cs T (0,0)):=by
 rcases h.val with ⟨rfl,_⟩ | ⟨g,cap,cur,rfl,_,hg,_⟩
 ·simp[Value.ownBlock] at hk
 ·simp only[Value.ownBlock,Option.some.injEq] at hk
  subst hk
  exact⟨cur,hg⟩
theorem Bg.addWt {n0:Nat} (h:Bg g w c X C) (hn:n0=w.heap.size) {w1:World} {xp gi:Nat} {wt:Wt} {wv':Value} (hp:n0≤xp) (hi:n0≤gi)
  (h1:w1.heap[xp]?=some (.cells #[.int .u64 wt.id,.int .u64 wt.epoch,.slice (some ⟨gi,0,none⟩) 1 1] 172 (0,0))) {k:Int} (hk:wt.calls=[k]) (h2:w1.heap[gi]?=some (.cells #[.int .i64 k] 3 (0,0)))
  {ws:List (Nat×Value)} (hws:Cu g w X.wv ws C.waits) (ha:Gl w 170 1 X.wv (ws.map fun x=>pV x.1) (pV xp) wv' w1) (hg1:w1.grownBy w' (some c))
  (hb:w'.heap[c]?=some (.cells (ctC C.cf C.s { X with wv:=wv' } C.ever).toArray 156 (0,0))):Bj g w c X (Bn g n0 10) w' { X with wv:=wv' } { C with waits:=C.waits++[wt] }:=by
 subst hn
 have hf1:Fp (tg g 10) w w1:=ha.fp hws.row
 have hf2:Fp (fun k=>k=c) w1 w':=Fp.of_grown hg1 rfl
 have hcl:=Ah h.hc
 have hf:Fp (fun k=>tg g 10 k∨k=c) w w':=(hf1.mono fun k hk=>.inl hk).trans (hf2.mono fun k hk=>.inr hk)
 have hx:w'.heap[xp]?=_:=hf2.heap h1 (fun e=>by omega)
 have hgi:w'.heap[gi]?=_:=hf2.heap h2 (fun e=>by omega)
 refine h.setWv hf (fun k hk=>hk.elim .inr fun e=>.inl (by rw[e];exact h.gc)) Az hb ⟨ws++[(xp,.slice (some ⟨gi,0,none⟩) 1 1)],?_,?_,?_,?_⟩
 ·rw[List.map_append]
  have h3:=((ha.ownO hws.row).fp hf2 (fun k hk e=>by
   rw[hk] at e
   rcases e with e | e
   ·have e:g c=10:=e
    rw[h.gc] at e
    cases e
   ·exact absurd e (by omega)))
  refine h3.mono fun k _ e=>?_
  rcases e with e | e
  ·by_cases hk:k<w.heap.size
   ·exact (Az k hk).trans e
   ·exact AM (by omega)
  ·exact AM e
 ·have hold:F2 (FK (Bn g w.heap.size 10) w') ws C.waits:=by
   have fg:Fp (fun k=>Value.rowB X.wv=some k) w w1:=Fp.of_gr ha.gr
   refine hws.pd.imp fun x y hx _ hp=>⟨hf2.heap (ha.heap hws.row hp.1 (by decide)) (fun e=>?_),(Az _ (Ah hp.1)).trans hp.2.1,?_⟩
   ·have e2:=hp.2.1
    rw[e,h.gc] at e2
    cases e2
   ·have h1:=hp.2.2
    have h2:AA (fun k=>tg g 10 k∧k<w.heap.size) w1 3 1 x.2 (y.calls.map Hu):=⟨Bp h1.own fg (fun k hk e=>by
     obtain⟨cs,h3⟩:=h1.blkT hk
     exact hws.row.row_ne h3 (by decide) e),fun k hk=>⟨h1.blk k hk,h1.lt hk⟩,h1.len⟩
    exact (h2.fp hf2 (fun k hk e=>by
     have e2:=e.1
     rw[hk] at e2
     have e2:g c=10:=e2
     rw[h.gc] at e2
     cases e2)).mono fun k _ e=>(Az k e.2).trans e.1
  exact hold.append (F2.one ⟨hx,AM hp,by rw[hk];exact AA.single hgi rfl (AM hi)⟩)
 ·rw[List.map_append]
  refine B9 hws.np fun hm=>?_
  obtain⟨y,hy,e⟩:=List.mem_map.1 hm
  obtain⟨j,hj,rfl⟩:=List.getElem_of_mem hy
  have hj2:j<C.waits.length:=by rw[← hws.pd.len];exact hj
  have:=Ah (hws.pd.at_ j _ _ (List.getElem?_eq_getElem hj) (List.getElem?_eq_getElem hj2)).1
  dsimp only at e
  omega
 ·refine List.pairwise_append.2 ⟨hws.nc,by simp,fun a ha' b hb' k hk hk'=>?_⟩
  rw[List.mem_singleton.1 hb'] at hk'
  simp only[Value.ownBlock,Option.some.injEq] at hk'
  obtain⟨j,hj,rfl⟩:=List.getElem_of_mem ha'
  have hj2:j<C.waits.length:=by rw[← hws.pd.len];exact hj
  have:=(hws.pd.at_ j _ _ (List.getElem?_eq_getElem hj) (List.getElem?_eq_getElem hj2)).2.2.lt hk
  omega
end
theorem slPp:SlT Tryz.prog 154 170 (.pointer none) 1 8:=⟨Tryz.underlying154,by kernel_rfl,rfl,by omega⟩
theorem prId_lt (b:List UInt8):Eg b<18446744073709551616:=by
 unfold Eg
 split
 ·exact Fz (b,0) 8 (by omega)
 ·decide
theorem ansB_len (id:Nat) (e:Int):(Iw id e).length≤16:=BJ _
theorem start_err {d:Dd} {id:Nat} (h:(d.start id).2≠0):(d.start id).1=d:=by
 unfold Dd.start at h ⊢
 split
 ·rfl
 next h1 =>
 rw[if_neg h1] at h
 split
 next h2 =>
  rw[if_pos h2] at h
  split
  ·rfl
  ·rfl
  ·next x l hx hl =>
   rw[hl] at h
   obtain⟨a,_ | y⟩:=x
   ·exact absurd rfl (hx a)
   ·exact absurd rfl h
 next h2 =>
  rw[if_neg h2] at h
  exact absurd rfl h
section
variable {g:Nat→Nat} {w:World} {c:Nat} {X:CtX} {C:Ct (Nat×Nat)} {n:Nat}
def CacP (g:Nat→Nat) (w:World) (c:Nat) (X:CtX) (C:Ct (Nat×Nat)) (e:Ending) (w':World):Prop :=
 ∃ p dv rv g' X',e=.returned (.tuple #[dv,rv])∧Cg (fun k=>w.heap.size≤k∧g' k=0) w' dv (C.accept (fun s=>(p,s))).2.1∧AA (fun k=>w.heap.size≤k∧g' k=0) w' 70 3 rv ((C.accept (fun s=>(p,s))).2.2.map rpC)∧Bj g w c X g' w' X' (C.accept (fun s=>(p,s))).1
theorem ctAccept (h:Bg g w c X C) (ok:BP C n) (hn:n≤1000000) (se:Co C.seen C.waits) (hnw:C.waits.length≤900) (hcl:∀ x∈C.calls,x.2.length≤1000) :
  Calls Tryz.prog 17 #[.pointer (some ⟨c,0,none⟩)] w (CacP g w c X C):=by
 have HOK:=Aa ok
 have HSE:=Aa se
 have HNW:=Aa hnw
 obtain⟨R,hR⟩:∃ R,R=CacP g w c X C:=⟨_,rfl⟩
 rw[← hR]
 have HR:=Aa hR
 have H0:=Aa h
 have k11:=Af h.hc 11 (.pointer (some ⟨X.iq,0,none⟩)) rfl w (Le.refl _)
 cases hc:C.calls with
 | nil =>
  have HP0:=Aa (ctPop0 h hc)
  have HM:=Aa (show ∀ p,C.accept (fun s=>(p,s))=(C,[],[]) from fun p=>by rw[Ct.accept,hc])
  clear hR h ok se hnw hcl hc
  go_enter Tryz.func17,Tryz.ntmps17
  go_wp2_with fail
  refine HP0.out.mono ?_
  rintro e w1 ⟨rfl,hb⟩
  have HL1:=Aa (Le.mk hb)
  clear hb k11
  go_wp2_with (refine Ak rfl 159 (.tmp 4) (.tmp 22) (cs:=[.int .i64 0,.slice none 0 0]) rfl rfl rfl (by kernel_rfl) (by simp[Value.oneCell']) (heap_alloc_new _ _) rfl ?_;intro w2 hn2 hg2;have HL2:=Aa (HL1.out.trans (((Le.refl w1).alloc _).box1 hg2 (Nat.le_refl _)));clear hn2 hg2)
  rw[HR.out]
  refine⟨0,_,_,Bn g w.heap.size 0,X,rfl,?_,?_,?_⟩
  ·rw[HM.out];exact .inl ⟨rfl,rfl⟩
  ·rw[HM.out];exact AA.nil
  ·rw[HM.out];exact H0.out.re 0 HL2.out
 | cons x l =>
  obtain⟨k,b⟩:=x
  obtain⟨bv,hp⟩:=ctPop1 h hc
  obtain⟨C1,hC1⟩:∃ D,D=({ C with calls:=l }:Ct (Nat×Nat)):=⟨_,rfl⟩
  rw[← hC1] at hp
  have HP1:=Aa hp
  have HBL:=Aa (hcl (k,b) (by rw[hc];exact List.mem_cons_self ..))
  have HM:=Aa (show ∀ p,C.accept (fun s=>(p,s))=C1.accept1 (fun s=>(p,s)) k b from fun p=>by rw[Ct.accept,hc,hC1])
  have HOK1:=Aa (show BP C1 n by rw[hC1];exact ok.same rfl rfl rfl rfl rfl rfl rfl)
  have HSE1:=Aa (show Co C1.seen C1.waits by rw[hC1];exact se)
  have HNW1:=Aa (show C1.waits.length≤900 by rw[hC1];exact hnw)
  clear hR h ok se hnw hcl hc hp HOK HSE HNW hC1
  go_enter Tryz.func17,Tryz.ntmps17
  go_wp2_with fail
  refine HP1.out.mono ?_
  rintro e w1 ⟨rfl,hc1,hb1⟩
  have HT1:=Aa hc1
  have HB1:=Aa hb1
  clear hc1 hb1 k11 HP1 H0
  obtain⟨Ab,cb,hbv,_,_,_⟩:=HB1.out.cells
  rw[List.length_map] at hbv
  subst hbv
  go_upto_region 6 with (refine Ak rfl 159 (.tmp 4) (.tmp 22) (cs:=[.int .i64 k,.slice Ab b.length cb]) rfl rfl rfl (by kernel_rfl) (by simp[Value.oneCell']) (heap_alloc_new _ _) rfl ?_;intro w2 hn2 hg2;have HX2:=Aa hn2;have HL2:=Aa (((Le.refl w1).alloc _).box1 hg2 (Nat.le_refl _));clear hn2 hg2)
  have HX4:=Aa (show w1.heap.size≤w1.heap.size from Nat.le_refl _)
  have kb:=Af HX2.out 1 (.slice Ab b.length cb) rfl w2 (Le.refl _)
  go_wp2_with fail
  refine (DJ b Ab b.length cb w2 (HB1.out.le HL2.out).rsl8 (by have:=HBL.out;omega)).mono ?_
  rintro e w3 ⟨A,cap,rfl,_,hb3,ho3⟩
  have HL3:=Aa (HL2.out.trans (Le.mk hb3))
  have HX3:=Aa ((Le.mk hb3).heap HX2.out)
  have HO3:=Aa (AA.of_base (ys:=(CK b).ssrcs.map DI) (by rw[Dn];exact ho3) (by rw[List.length_map]) (by intro y hy;obtain⟨p,_,rfl⟩:=List.mem_map.1 hy;rfl))
  have HW2:=Aa HL2.out.size
  clear hb3 ho3 kb HX2 HL2 HB1
  have HQL:=Aa (prRq_len b)
  obtain⟨q,hq⟩:∃ q,q=CK b:=⟨_,rfl⟩
  rw[← hq] at HO3 HQL ⊢
  have HQ:=Aa hq
  have HIDL:=Aa (prId_lt b)
  obtain⟨id,hid⟩:∃ i,i=Eg b:=⟨_,rfl⟩
  rw[← hid] at HIDL ⊢
  have HID:=Aa hid
  clear hq hid
  have HSZ:=Aa HT1.out.fp.size
  by_cases he:De b=0
  ·have HE:=Aa he
   rw[he]
   clear he
   go_upto_region 9 with (refine Ak rfl 31 (.tmp 7) (.tmp 31) (cs:=[.int .i64 q.kind,.int .i64 q.who,.int .i64 q.room,.int .i64 q.rights,.int .i64 q.track,.slice A q.ssrcs.length cap,.int .i64 q.layer,.int .i64 q.tid]) rfl rfl rfl (by kernel_rfl) (by simp[Value.oneCell']) (heap_alloc_new _ _) rfl ?_;intro w4 hn4 hg4;have HQ4:=Aa hn4;have HL34:=Aa (((Le.refl w3).alloc _).box1 hg4 (Nat.le_refl _));clear hn4 hg4)
   have HL4:=Aa (HL3.out.trans HL34.out)
   have HT4:=Aa (HT1.out.trans (HT1.out.at_.re 0 HL4.out))
   have HX4':=Aa (HL34.out.heap HX3.out)
   have HO4:=Aa ((HO3.out.le HL34.out).mono (M':=fun j=>w.heap.size≤j∧Bn g w1.heap.size 0 j=0) fun j _ hj=>⟨Nat.le_trans HSZ.out (Nat.le_trans HW2.out hj),AM (Nat.le_trans HW2.out hj)⟩)
   have HGX:=Aa (show Bn g w1.heap.size 0 w1.heap.size=0 from AM (Nat.le_refl _))
   have HGQ:=Aa (show Bn g w1.heap.size 0 w3.heap.size=0 from AM HL3.out.size)
   clear HO3 HX3 HL3 HL34 HL4 HW2 HT1 HX4
   generalize Bn g w1.heap.size 0=G4 at *
   generalize w1.heap.size=x4 at *
   generalize w3.heap.size=x7 at *
   have k12:=Af HT4.out.at_.hc 12 (.pointer (some ⟨X.sn,0,none⟩)) rfl w4 (Le.refl _)
   go_wp2_with fail
   refine (ctFind HT4.out.at_ id HIDL.out).mono ?_
   rintro e w5 ⟨rfl,hb⟩
   have hle:=Le.mk hb
   have HT5:=Aa (HT4.out.le hle)
   have HX5:=Aa (hle.heap HX4'.out)
   have HQ5:=Aa (hle.heap HQ4.out)
   have HO5:=Aa (HO4.out.le hle)
   clear hb hle k12 HT4 HX4' HQ4 HO4
   have kx:=Af HX5.out 0 (.int .i64 k) rfl w5 (Le.refl _)
   cases hf:C1.seen.find id with
   | some oo =>
    have HA:=Aa (ctAgain HT5.out.at_ k id HIDL.out (fun b' hb'=>by
     rw[hf] at hb'
     injection hb' with hb'
     subst hb'
     obtain⟨e,_,h2⟩:=HSE1.out.ans _ ((EH HSE1.out.nd).1 hf) b' rfl
     rw[h2]
     exact Nat.le_trans (ansB_len _ _) (by decide)) (by have:=HNW1.out;omega) (fun wt hwt=>by have:=(HSE1.out.calls wt hwt).2;omega))
    have HAC:=Aa (show ∀ p,C1.accept1 (fun s=>(p,s)) k b=((C1.again k id).1,[],(C1.again k id).2) from fun p=>by rw[Ct.accept1,if_neg (fun h=>h HE.out),← HID.out,hf];exact if_pos rfl)
    clear hf
    go_wp2_with fail
    refine HA.out.mono ?_
    rintro e w6 ⟨v,g',rfl,ho,hc⟩
    have HO6:=Aa ho
    have HT6:=Aa (HT5.out.trans hc)
    have HS5:=Aa (Nat.le_trans HSZ.out (Nat.le_of_lt (Ah HX5.out)))
    clear ho hc
    go_wp2_with fail
    rw[HR.out]
    refine⟨0,_,_,g',X,rfl,?_,?_,?_⟩
    ·rw[HM.out,HAC.out];exact .inl ⟨rfl,rfl⟩
    ·rw[HM.out,HAC.out];exact HO6.out.mono fun j _ hj=>⟨Nat.le_trans HS5.out hj.1,hj.2⟩
    ·rw[HM.out,HAC.out];exact HT6.out
   | none =>
    have HF:=Aa hf
    clear hf
    have k12:=Af HT5.out.at_.hc 12 (.pointer (some ⟨X.sn,0,none⟩)) rfl w5 (Le.refl _)
    go_wp2_with fail
    refine (ctStart HT5.out.at_ id HIDL.out).mono ?_
    rintro e w6 ⟨rfl,hf6,hc6⟩
    have HT6:=Aa (HT5.out.trans hc6)
    have HX6:=Aa (hf6.heap HX5.out (fun e=>by have:=e.1;rw[tg,HGX.out] at this;cases this))
    have HQ6:=Aa (hf6.heap HQ5.out (fun e=>by have:=e.1;rw[tg,HGQ.out] at this;cases this))
    have HO6:=Aa ((HO5.out.mono (M':=fun j=>(w.heap.size≤j∧G4 j=0)∧j<w5.heap.size) (fun j hj e=>⟨e,hj⟩)).fp hf6 (fun j hj e=>by have h1:=hj.1;rw[tg,e.1.2] at h1;cases h1) |>.mono (M':=fun j=>w.heap.size≤j∧Bn G4 w5.heap.size 6 j=0) fun j _ e=>⟨e.1.1,(Az j e.2).trans e.1.2⟩)
    have HGX6:=Aa (show Bn G4 w5.heap.size 6 x4=0 from (Az _ (Ah HX5.out)).trans HGX.out)
    have HGQ6:=Aa (show Bn G4 w5.heap.size 6 x7=0 from (Az _ (Ah HQ5.out)).trans HGQ.out)
    clear hf6 hc6 k12 kx HT5 HX5 HQ5 HO5 HGX HGQ
    generalize Bn G4 w5.heap.size 6=G6 at *
    by_cases h0:(C1.seen.start id).2=0
    ·have HS0:=Aa h0
     rw[h0]
     clear h0
     obtain⟨Aq,cq,hqv,hqc,hqa,hqn⟩:=HO6.out.cells
     rw[List.length_map] at hqv hqn
     injection hqv with e1 _ e3
     subst e1 e3
     rw[Dn] at hqc
     obtain⟨C6,hC6⟩:∃ D,D=({ C1 with seen:=(C1.seen.start id).1 }:Ct (Nat×Nat)):=⟨_,rfl⟩
     rw[← hC6] at HT6
     have HDO:=Aa (ctDo HT6.out.at_ (show BP C6 n by rw[hC6];exact HOK1.out.same rfl rfl rfl rfl rfl rfl rfl) hn q A cap hqc (by have:=HQL.out;omega) hqn (fun e=>by obtain⟨a1,a2⟩:=hqa e;exact⟨by have:=congrArg List.length a1;simpa using this,a2⟩))
     have HFR:=Aa (show ∀ p,C1.accept1 (fun s=>(p,s)) k b=(if (C6.do_ (fun s=>(p,s)) q).2.1=0 then (((C6.do_ (fun s=>(p,s)) q).1.answer id (C6.do_ (fun s=>(p,s)) q).2.2 [k]).1,[⟨k,id,q,(C6.do_ (fun s=>(p,s)) q).2.2⟩],((C6.do_ (fun s=>(p,s)) q).1.answer id (C6.do_ (fun s=>(p,s)) q).2.2 [k]).2)
      else ({ (C6.do_ (fun s=>(p,s)) q).1 with waits:=(C6.do_ (fun s=>(p,s)) q).1.waits++[⟨id,(C6.do_ (fun s=>(p,s)) q).2.1,[k]⟩] },[⟨k,id,q,(C6.do_ (fun s=>(p,s)) q).2.2⟩],[])) from fun p=>by
       rw[Ct.accept1,if_neg (fun h=>h HE.out),← HID.out,← HQ.out,HF.out]
       rw[show (if Option.isSome (none:Option (Option (List UInt8)))=true then ((C1.again k id).1,([]:List Dn1),(C1.again k id).2) else C1.fresh (fun s=>(p,s)) k id q)=C1.fresh (fun s=>(p,s)) k id q from rfl]
       rw[Ct.fresh,if_neg (fun h=>h HS0.out),← hC6])
     have HWC:=Aa (show C6.waits.length≤900 by rw[hC6];exact HNW1.out)
     clear hqc hqa hqn hC6
     go_wp2_with (refine Al rfl 31 (.tmp 7) rfl (cs:=[.int .i64 q.kind,.int .i64 q.who,.int .i64 q.room,.int .i64 q.rights,.int .i64 q.track,.slice A q.ssrcs.length cap,.int .i64 q.layer,.int .i64 q.tid]) _ rfl Tryz.underlying31 rfl (by kernel_rfl) HQ6.out ?_)
     refine HDO.out.mono ?_
     rintro e w7 ⟨p,G7,X8,rfl,hc7⟩
     obtain⟨e7,he7,hee⟩:=GN (fun s=>(p,s)) C6 q
     have hw7:=(Fc (fun s=>(p,s)) C6 q).2.1
     have HFP:=Aa (HFR.out p)
     generalize C6.do_ (fun s=>(p,s)) q=r at *
     obtain⟨D,ep,er⟩:=r
     dsimp only at hee hc7 hw7
     subst hee
     have HFX:=Aa (show C1.accept1 (fun s=>(p,s)) k b=(if ep=0 then ((D.answer id (e7:Int) [k]).1,[⟨k,id,q,(e7:Int)⟩],(D.answer id (e7:Int) [k]).2) else ({ D with waits:=D.waits++[⟨id,ep,[k]⟩] },[⟨k,id,q,(e7:Int)⟩],[])) from HFP.out)
     have HW7:=Aa (show D.waits.length≤900 by rw[hw7];exact HWC.out)
     have HT7:=Aa (HT6.out.trans hc7)
     have HX7:=Aa (hc7.fp.heap HX6.out (fun e=>e HGX6.out))
     have HQ7:=Aa (hc7.fp.heap HQ6.out (fun e=>e HGQ6.out))
     have HO7:=Aa (((HO6.out.mono (M':=fun j=>(w.heap.size≤j∧G6 j=0)∧j<w6.heap.size) (fun j hj e=>⟨e,hj⟩)).fp hc7.fp (fun j hj e=>hj e.1.2)).mono (M':=fun j=>w.heap.size≤j∧G7 j=0) fun j _ e=>⟨e.1.1,(hc7.re j e.2).trans e.1.2⟩)
     have HGX7:=Aa (show G7 x4=0 from (hc7.re _ (Ah HX6.out)).trans HGX6.out)
     clear hc7 hw7 HT6 HX6 HQ6 HO6 HGX6 HGQ6 HDO HFR HFP HWC
     have kx:=Af HX7.out 0 (.int .i64 k) rfl w7 (Le.refl _)
     go_upto_region 16 with (refine Al rfl 31 (.tmp 7) rfl (cs:=[.int .i64 q.kind,.int .i64 q.who,.int .i64 q.room,.int .i64 q.rights,.int .i64 q.track,.slice A q.ssrcs.length cap,.int .i64 q.layer,.int .i64 q.tid]) _ rfl Tryz.underlying31 rfl (by kernel_rfl) HQ7.out ?_)
     have HG8:=Aa (heap_alloc_new w7 (.cells #[.int .i64 k,.int .u64 id,.int .i64 q.kind,.int .i64 q.who,.int .i64 q.room,.int .i64 q.rights,.int .i64 q.track,.slice A q.ssrcs.length cap,.int .i64 q.layer,.int .i64 q.tid,.int .i64 e7] 78))
     have HL8:=Aa ((Le.refl w7).alloc (.cells #[.int .i64 k,.int .u64 id,.int .i64 q.kind,.int .i64 q.who,.int .i64 q.room,.int .i64 q.rights,.int .i64 q.track,.slice A q.ssrcs.length cap,.int .i64 q.layer,.int .i64 q.tid,.int .i64 e7] 78))
     generalize World.alloc w7 _=w8 at *
     have HT8:=Aa (HT7.out.trans (HT7.out.at_.re 0 HL8.out))
     have HX8:=Aa (HL8.out.heap HX7.out)
     have HDN:=Aa (show Cg (fun j=>w.heap.size≤j∧Bn G7 w7.heap.size 0 j=0) w8 (.slice (some ⟨w7.heap.size,0,none⟩) 1 1) [⟨k,id,q,(e7:Int)⟩] from .inr ⟨⟨k,id,q,(e7:Int)⟩,w7.heap.size,A,cap,rfl,rfl,⟨HT7.out.fp.size,AM (Nat.le_refl _)⟩,HG8.out,((HO7.out.mono (M':=fun j=>(w.heap.size≤j∧G7 j=0)∧j<w7.heap.size) (fun j hj e=>⟨e,hj⟩)).le HL8.out).mono fun j _ e=>⟨e.1.1,(Az j e.2).trans e.1.2⟩⟩)
     have HGX8:=Aa (show Bn G7 w7.heap.size 0 x4=0 from (Az _ (Ah HX7.out)).trans HGX7.out)
     clear kx HG8 HL8 HT7 HX7 HQ7 HO7 HGX7
     generalize Bn G7 w7.heap.size 0=G8 at *
     generalize w7.heap.size=xd at *
     have kx:=Af HX8.out 0 (.int .i64 k) rfl w8 (Le.refl _)
     by_cases hep:ep=0
     ·have HEP:=Aa hep
      subst hep
      have HG9:=Aa (heap_alloc_new w8 (.cells #[.int .i64 k] 3))
      have HL9:=Aa ((Le.refl w8).alloc (.cells #[.int .i64 k] 3))
      have HT9:=Aa (HT8.out.trans (HT8.out.at_.re 0 HL9.out))
      have HGN:=Aa (show Bn G8 w8.heap.size 0 w8.heap.size=0 from AM (Nat.le_refl _))
      have HDN9:=Aa (((HDN.out.mono (M':=fun j=>(w.heap.size≤j∧G8 j=0)∧j<w8.heap.size) (fun j hj e=>⟨e,hj⟩)).fp (S:=fun _=>False) (Fp.of_le HL9.out) (fun _ h=>h.elim)).mono (M':=fun j=>w.heap.size≤j∧Bn G8 w8.heap.size 0 j=0) fun j _ e=>⟨e.1.1,(Az j e.2).trans e.1.2⟩)
      have HS8:=Aa HT9.out.fp.size
      go_wp2_with fail
      generalize Bn G8 w8.heap.size 0=G9 at *
      generalize World.alloc w8 _=w9 at *
      generalize w8.heap.size=xi at *
      refine (Hb (M:=fun j=>j=xi) HT9.out.at_ id e7 HIDL.out he7 [k] (AA.single HG9.out rfl rfl) (fun j hj _=>by rw[hj,HGN.out];decide) (by simp)).mono ?_
      rintro en w10 ⟨v,rfl,ho,hc,hf⟩
      have HT10:=Aa (HT9.out.trans hc)
      have HO10:=Aa ho
      have HF10:=Aa hf
      clear hc ho hf kx
      go_wp2_with fail
      rw[HR.out]
      have hm:C.accept (fun s=>(p,s))=((D.answer id (e7:Int) [k]).1,[⟨k,id,q,(e7:Int)⟩],(D.answer id (e7:Int) [k]).2):=by rw[HM.out,HFX.out];exact if_pos trivial
      refine⟨p,_,_,Bn G9 w9.heap.size 0,X8,rfl,?_,?_,?_⟩
      ·rw[hm]
       exact ((HDN9.out.mono (M':=fun j=>(w.heap.size≤j∧G9 j=0)∧j<w9.heap.size) (fun j hj e=>⟨e,hj⟩)).fp HF10.out (fun j hj e=>by have h1:=hj.1;rw[tg,e.1.2] at h1;cases h1)).mono fun j _ e=>⟨e.1.1,(Az j e.2).trans e.1.2⟩
      ·rw[hm]
       exact HO10.out.mono fun j _ hj=>⟨Nat.le_trans HS8.out hj,AM hj⟩
      ·rw[hm]
       exact HT10.out
     ·have hepI:¬ (ep:Int)=0:=by omega
      have hepb:((ep:Int)==0)=false:=by rw[beq_eq_false_iff_ne];omega
      have HEP:=Aa hep
      clear hep
      go_upto_region 18 with fail
      have HT8d:=Aa (HT8.out.le (Le.refl w8).drew)
      obtain⟨ws,hws⟩:=HT8d.out.at_.wt
      have HWS:=Aa hws
      have HWR18:=Aa hws.row
      have HC18:=Aa (show w8.drew.heap[c]?=some (.cells #[.int .i64 D.cf.shards,.int .i64 D.cf.intake,.int .i64 D.cf.window,.int .i64 D.cf.keep,.int .i64 D.s.mp,.int .i64 D.s.mt,.int .i64 D.s.ms,.int .i64 D.s.ml,.pointer (some ⟨X8.ar,0,none⟩),.pointer (some ⟨X8.pn,0,none⟩),.pointer (some ⟨X8.bd,0,none⟩),.pointer (some ⟨X8.iq,0,none⟩),.pointer (some ⟨X8.sn,0,none⟩),.int .i64 D.s.mp,.int .i64 D.s.mt,.int .i64 D.s.ms,.int .i64 D.s.ml,X8.pv,X8.tv,X8.sv,Cp X8.tb,.int .u32 D.ever,.map (some X8.sm),X8.wv] 156 (0,0)) from HT8d.out.at_.hc)
      have HX18:=Aa ((Le.refl w8).drew.heap HX8.out)
      obtain⟨n9,hn9⟩:∃ n,n=w8.drew.heap.size:=⟨_,rfl⟩
      have HN18:=Aa (show n9≤w8.drew.heap.size from by rw[hn9];exact Nat.le_refl _)
      have HRL:=Aa (show ∀ j,Value.rowB X8.wv=some j→j<w8.drew.heap.size from fun j hj=>hws.row.row_lt hj)
      have HRW:=Aa (show ∀ j,n9≤j→Value.rowB X8.wv≠some j from fun j hj e=>by have:=hws.row.row_lt e;omega)
      have HRC:=Aa (show Value.rowB X8.wv≠some c from fun e=>by have h1:=hws.row.rowM e;rw[tg,HT8d.out.at_.gc] at h1;cases h1)
      have HRX:=Aa (show Value.rowB X8.wv≠some x4 from fun e=>by have h1:=hws.row.rowM e;rw[tg,HGX8.out] at h1;cases h1)
      have HWL:=Aa (show (ws.map fun x=>pV x.1).length≤1000000 by rw[List.length_map,hws.pd.len];have:=HW7.out;omega)
      have HN9:=Aa hn9
      clear hws hn9 kx hepI hepb
      refine' AB 13 16 16 91 Le (Gr (Value.rowB X8.wv)) (IsD _::IsD _::IsD _::IsD _::IsD _::IsD _::IsD _::IsD _::IsD _::(fun _ v W=>∃ gi,v=.slice (some ⟨gi,0,none⟩) 1 1∧n9≤gi∧W.heap[gi]?=some (.cells #[.int .i64 k] 3 (0,0)))::(fun _ v W=>∃ gi,v=.agg #[.int .u64 id,.int .u64 ep,.slice (some ⟨gi,0,none⟩) 1 1]∧n9≤gi∧W.heap[gi]?=some (.cells #[.int .i64 k] 3 (0,0)))::(fun _ v W=>∃ xp gi,v=.pointer (some ⟨xp,0,none⟩)∧(n9≤gi∧W.heap[gi]?=some (.cells #[.int .i64 k] 3 (0,0)))∧n9≤xp∧W.heap[xp]?=some (.cells #[.int .u64 id,.int .u64 ep,.slice (some ⟨gi,0,none⟩) 1 1] 172 (0,0)))::(fun _ v W=>∃ xp gi,BsF (Value.rowB X8.wv) (pV xp) 170 v W∧(n9≤gi∧W.heap[gi]?=some (.cells #[.int .i64 k] 3 (0,0)))∧n9≤xp∧W.heap[xp]?=some (.cells #[.int .u64 id,.int .u64 ep,.slice (some ⟨gi,0,none⟩) 1 1] 172 (0,0)))::(fun _ v W=>∃ xp gi,Gl w8.drew 170 1 X8.wv (ws.map fun x=>pV x.1) (pV xp) v W∧(n9≤gi∧W.heap[gi]?=some (.cells #[.int .i64 k] 3 (0,0)))∧n9≤xp∧W.heap[xp]?=some (.cells #[.int .u64 id,.int .u64 ep,.slice (some ⟨gi,0,none⟩) 1 1] 172 (0,0)))::IsD _::IsD _::[]) ([]::[]::[1]::[2]::[3]::[]::[]::[]::[7]::[8]::[5,6,9]::[10]::[11]::[4,12]::[0]::[14]::[]) (by kernel_rfl) (by kernel_rfl) (by rfl) (by kernel_rfl) (by kernel_rfl) Le.refl (fun _ _ _ h h'=>h.trans h') (fun _ _ _ h h'=>h.trans h') (fun _ _ h=>Gr.of_le h) ⟨StQ.is,StQ.is,StQ.is,StQ.is,StQ.is,StQ.is,StQ.is,StQ.is,StQ.is,(fun _ _ _ _ hb h=>Exists.elim h fun gi h=>⟨gi,h.1,h.2.1,hb.heap h.2.2 (HRW.out gi h.2.1)⟩),(fun _ _ _ _ hb h=>Exists.elim h fun gi h=>⟨gi,h.1,h.2.1,hb.heap h.2.2 (HRW.out gi h.2.1)⟩),(fun _ _ _ _ hb h=>Exists.elim h fun xp h=>Exists.elim h fun gi h=>⟨xp,gi,h.1,⟨h.2.1.1,hb.heap h.2.1.2 (HRW.out gi h.2.1.1)⟩,h.2.2.1,hb.heap h.2.2.2 (HRW.out xp h.2.2.1)⟩),(fun _ _ _ _ hb h=>Exists.elim h fun xp h=>Exists.elim h fun gi h=>⟨xp,gi,h.1.gr hb,⟨h.2.1.1,hb.heap h.2.1.2 (HRW.out gi h.2.1.1)⟩,h.2.2.1,hb.heap h.2.2.2 (HRW.out xp h.2.2.1)⟩),(fun _ _ _ _ hb h=>Exists.elim h fun xp h=>Exists.elim h fun gi h=>⟨xp,gi,h.1.le hb,⟨h.2.1.1,hb.heap h.2.1.2⟩,h.2.2.1,hb.heap h.2.2.2⟩),StQ.is,StQ.is,trivial⟩ ?m18
      case m18 =>
       simp (maxSteps:=100000000) only [AR,DU,Nat.reduceBEq,cond_true,cond_false,AU,AH,AE,B6,AD,Am,Au,List.set_cons_succ,List.set_cons_zero,List.map_cons,List.getElem?_cons_zero,List.getElem?_cons_succ,Option.getD_some,List.map_nil,List.take_succ_cons,List.take_zero,List.drop_succ_cons,List.drop_zero,List.cons_append,List.nil_append,List.length_cons,List.length_nil,Nat.reduceAdd]
       intro x0 x1 x2 x3 x4 x5 x6 x7 x8 x9 x10 x11 x12 x13 x14 x15
       refine⟨⟨?_,?_,?_,?_,?_,?_,?_,?_,?_,?_,?_,?_,?_,?_,?_,?_,trivial⟩,?_⟩
       ·intro wo hw KQ hK;go_simp;exact hK _ _ .r .m
       ·intro wo hw KQ hK;go_simp;exact hK _ _ .r .m
       ·intro wo hw h1 KQ hK;cases h1;go_simp;exact hK _ _ .r .m
       ·intro wo hw h2 KQ hK;cases h2;go_simp;exact hK _ _ .r .m
       ·intro wo hw h3 KQ hK;cases h3;have kk:=Af (hw.heap HC18.out HRC.out) 23 (X8.wv) rfl wo (Le.refl _);go_simp;exact hK _ _ .r .m
       ·intro wo hw KQ hK;go_simp;exact hK _ _ .r .m
       ·intro wo hw KQ hK;go_simp;exact hK _ _ .r .m
       ·intro wo hw KQ hK;go_simp;exact hK _ _ .r .m
       ·intro wo hw h7 KQ hK;cases h7;have kk:=Af (hw.heap HX18.out HRX.out) 0 (.int .i64 k) rfl wo (Le.refl _);go_simp;exact hK _ _ .r .m
       ·intro wo hw h8 KQ hK;cases h8;go_simp;exact hK _ _ ((Le.refl _).alloc _) ⟨_,rfl,Nat.le_trans HN18.out hw.size,heap_alloc_new _ _⟩
       ·intro wo hw h5 h6 h9 KQ hK;cases h5;cases h6;obtain⟨gi,rfl,hgi,HGI⟩:=h9;go_simp;exact hK _ _ (Le.refl _) ⟨_,rfl,hgi,HGI⟩
       ·intro wo hw h10 KQ hK;obtain⟨gi,rfl,hgi,HGI⟩:=h10;go_simp;exact hK _ _ ((Le.refl _).alloc _) ⟨_,gi,rfl,⟨hgi,heap_alloc HGI⟩,Nat.le_trans HN18.out hw.size,heap_alloc_new _ _⟩
       ·intro wo hw h11 KQ hK;obtain⟨xp,gi,rfl,⟨hgi,HGI⟩,hxp,HXP⟩:=h11;go_simp;exact hK _ _ ((Le.refl _).alloc _) ⟨xp,gi,BsF.new (pV xp) _ (fun k hk=>Nat.lt_of_lt_of_le (HRL.out k hk) hw.size),⟨hgi,heap_alloc HGI⟩,hxp,heap_alloc HXP⟩
       ·intro wo hw h4 h12 KQ hK;cases h4;obtain⟨xp,gi,HBS,⟨hgi,HGI⟩,hxp,HXP⟩:=h12;refine cast (if_pos (show Region.wanted _ _=true from rfl)).symm ?_;obtain⟨gb9,hv9,hb91,hb92⟩:=HBS.out;subst hv9;refine wp_appO slPp (.tmp 95) (.tmp 103) rfl HWR18.out hw rfl rfl ⟨⟨gb9,rfl,hb91,hb92⟩⟩ rfl (by simp[pV,Value.oneCell']) HWL.out (by decide) ?_;intro v' w' h1 h2;exact hK _ _ h2 ⟨xp,gi,h1,⟨hgi,h2.heap HGI (HRW.out gi hgi)⟩,hxp,h2.heap HXP (HRW.out xp hxp)⟩
       ·intro wo hw h0 KQ hK;cases h0;go_simp;exact hK _ _ .r .m
       ·intro wo hw h14 KQ hK;cases h14;go_simp;exact hK _ _ .r .m
       ·intro wz hz h0 h1 h2 h3 h4 h5 h6 h7 h8 h9 h10 h11 h12 h13 h14 h15;cases h0;cases h1;cases h2;cases h3;cases h4;cases h5;cases h6;cases h7;cases h8;obtain⟨gi,rfl,hgi,HGI⟩:=h9;obtain⟨gi,rfl,hgi,HGI⟩:=h10;obtain⟨xp,gi,rfl,⟨hgi,HGI⟩,hxp,HXP⟩:=h11;obtain⟨xp,gi,HBS,⟨hgi,HGI⟩,hxp,HXP⟩:=h12;cases h14;cases h15;skip
        have HW:=Aa hz
        obtain⟨xp,gi,hap,⟨hgi,HGI⟩,hxp,HXP⟩:=h13
        obtain⟨Ar,cr,hv⟩:=hap.own.slice
        subst hv
        have HAP:=Aa hap
        have HGI9:=Aa HGI
        have HXP9:=Aa HXP
        have HI9:=Aa (And.intro hgi hxp)
        have HCz:=Aa (hap.gr.heap HC18.out HRC.out)
        clear hz hap HGI HXP hgi hxp
        go_wp2_with (refine Ao rfl 154 (.tmp 106) (.tmp 104) rfl [.int .i64 D.cf.shards,.int .i64 D.cf.intake,.int .i64 D.cf.window,.int .i64 D.cf.keep,.int .i64 D.s.mp,.int .i64 D.s.mt,.int .i64 D.s.ms,.int .i64 D.s.ml,.pointer (some ⟨X8.ar,0,none⟩),.pointer (some ⟨X8.pn,0,none⟩),.pointer (some ⟨X8.bd,0,none⟩),.pointer (some ⟨X8.iq,0,none⟩),.pointer (some ⟨X8.sn,0,none⟩),.int .i64 D.s.mp,.int .i64 D.s.mt,.int .i64 D.s.ms,.int .i64 D.s.ml,X8.pv,X8.tv,X8.sv,Cp X8.tb,.int .u32 D.ever,.map (some X8.sm)] (v:=.slice Ar ((ws.map fun x=>pV x.1)++[pV xp]).length cr) (old:=X8.wv) (post:=[]) rfl rfl (by kernel_rfl) rfl HCz.out ?_;intro w9 h9 hg9;have H9:=Aa h9;have HG9:=Aa hg9;clear h9 hg9)
        rw[HR.out]
        have hm:C.accept (fun s=>(p,s))=({ D with waits:=D.waits++[⟨id,ep,[k]⟩] },[⟨k,id,q,(e7:Int)⟩],[]):=by rw[HM.out,HFX.out,if_neg HEP.out]
        have hfp:Fp (fun j=>tg G8 10 j∨j=c) w8.drew w9:=((HAP.out.fp HWS.out.row).mono fun j hj=>.inl hj).trans ((Fp.of_grown (S:=fun j=>j=c) HG9.out rfl).mono fun j hj=>.inr hj)
        refine⟨p,_,_,Bn G8 n9 10,{ X8 with wv:=.slice Ar ((ws.map fun x=>pV x.1)++[pV xp]).length cr },rfl,?_,?_,?_⟩
        ·rw[hm]
         exact (((HDN.out.mono (M':=fun j=>(w.heap.size≤j∧G8 j=0)∧j<w8.drew.heap.size) (fun j hj e=>⟨e,hj⟩)).fp (S:=fun _=>False) (Fp.of_le (Le.refl w8).drew) (fun _ h=>h.elim)).fp hfp (fun j hj e=>by
          rcases hj with hj | hj
          ·rw[tg,e.1.2] at hj;cases hj
          ·have h1:=e.1.2
           rw[hj,HT8d.out.at_.gc] at h1
           cases h1)).mono fun j _ e=>⟨e.1.1,(Az j (by rw[HN9.out];exact e.2)).trans e.1.2⟩
        ·rw[hm]
         exact AA.nil
        ·rw[hm]
         exact HT8d.out.trans (HT8d.out.at_.addWt (wt:=⟨id,ep,[k]⟩) HN9.out HI9.out.2 HI9.out.1 HXP9.out rfl HGI9.out HWS.out HAP.out HG9.out H9.out)
    ·have HS0:=Aa h0
     obtain⟨er,her⟩:∃ e,e=(C1.seen.start id).2:=⟨_,rfl⟩
     rw[← her]
     have hne:¬ er=0:=by rw[her];exact h0
     have hnb:(er !=0)=true:=by rw[bne_iff_ne];exact hne
     clear her h0
     rw[start_err HS0.out] at HT6
     go_upto_region 13 with fail
     have HX8:=Aa ((Le.refl w6).drew.heap HX6.out)
     obtain⟨n8,hn8⟩:∃ n,n=w6.heap.size:=⟨_,rfl⟩
     have HN8:=Aa (show n8≤w6.drew.heap.size from by rw[hn8];exact Nat.le_refl _)
     have HM8:=Aa (show w6.heap.size≤n8 from by rw[hn8];exact Nat.le_refl _)
     clear hn8 hne hnb
     refine' Aj 6 5 63 Le (Is _::Is _::Is _::Is _::(fun v W=>∃ gr,v=.slice (some ⟨gr,0,none⟩) 1 1∧n8≤gr∧W.heap[gr]?=some (.cells #[.int .i64 k,.int .u64 id,.int .i64 20] 70 (0,0)))::Is _::[]) ([]::[0]::[]::[1,2]::[3]::[]::[]) (by kernel_rfl) (by kernel_rfl) (by rfl) (by kernel_rfl) (by kernel_rfl) Le.refl (fun _ _ _ h h'=>h.trans h') ⟨St.is,St.is,St.is,St.is,(fun _ _ _ hb h=>Exists.elim h fun g h=>⟨g,h.1,h.2.1,hb.heap h.2.2⟩),St.is,trivial⟩ ?m13
     case m13 =>
      simp (maxSteps:=100000000) only [AR,Bv,AK,AC,An,AD,Am,Au,Act.put,List.setIfInBounds_toArray,List.set_cons_succ,List.set_cons_zero,List.getElem?_cons_zero,List.getElem?_cons_succ,List.take_succ_cons,List.take_zero,List.drop_succ_cons,List.drop_zero,List.cons_append,List.nil_append,List.length_cons,List.length_nil,Nat.reduceAdd]
      intro x0 x1 x2 x3 x4 x5
      refine⟨⟨?_,?_,?_,?_,?_,?_,trivial⟩,?_⟩
      ·intro wo hw KQ hK;go_simp;exact hK _ _ .r .m
      ·intro wo hw h0 KQ hK;cases h0;have kk:=Af (hw.heap HX8.out) 0 (.int .i64 k) rfl wo (Le.refl _);go_simp;exact hK _ _ .r .m
      ·intro wo hw KQ hK;go_simp;exact hK _ _ .r .m
      ·intro wo hw h1 h2 KQ hK;cases h1;cases h2;go_simp;exact hK _ _ .r .m
      ·intro wo hw h3 KQ hK;cases h3;go_simp;exact hK _ _ ((Le.refl _).alloc _) ⟨_,rfl,Nat.le_trans HN8.out hw.size,heap_alloc_new _ _⟩
      ·intro wo hw KQ hK;go_simp;exact hK _ _ .r .m
      ·intro wz hz h0 h1 h2 h3 h4 h5;cases h0;cases h1;cases h2;cases h3;obtain⟨gr,rfl,hgr,HGR⟩:=h4;cases h5;skip
       have HL9:=Aa ((Le.refl w6).drew.trans hz)
       have HG9:=Aa HGR
       have HGG:=Aa hgr
       clear hz HGR hgr
       go_wp2_with fail
       rw[HR.out]
       have hm:∀ p,C.accept (fun s=>(p,s))=(C1,[],[⟨k,id,20⟩]):=fun p=>by
        rw[HM.out,Ct.accept1,if_neg (fun h=>h HE.out),← HID.out,← HQ.out,HF.out]
        rw[show (if Option.isSome (none:Option (Option (List UInt8)))=true then ((C1.again k id).1,([]:List Dn1),(C1.again k id).2) else C1.fresh (fun s=>(p,s)) k id q)=C1.fresh (fun s=>(p,s)) k id q from rfl]
        rw[Ct.fresh,if_pos HS0.out]
       refine⟨0,_,_,Bn G6 w6.heap.size 0,X,rfl,?_,?_,?_⟩
       ·rw[hm];exact .inl ⟨rfl,rfl⟩
       ·rw[hm];exact AA.single HG9.out rfl ⟨Nat.le_trans HT6.out.fp.size (Nat.le_trans HM8.out HGG.out),AM (Nat.le_trans HM8.out HGG.out)⟩
       ·rw[hm];exact HT6.out.trans (HT6.out.at_.re 0 HL9.out)
  ·have HE:=Aa he
   obtain⟨er,her⟩:∃ e,e=De b:=⟨_,rfl⟩
   rw[← her]
   have hne:¬ er=0:=by rw[her];exact he
   have hnb:(er !=0)=true:=by rw[bne_iff_ne];exact hne
   have HER:=Aa her
   clear he her
   go_upto_region 8 with (refine Ak rfl 31 (.tmp 7) (.tmp 31) (cs:=[.int .i64 q.kind,.int .i64 q.who,.int .i64 q.room,.int .i64 q.rights,.int .i64 q.track,.slice A q.ssrcs.length cap,.int .i64 q.layer,.int .i64 q.tid]) rfl rfl rfl (by kernel_rfl) (by simp[Value.oneCell']) (heap_alloc_new _ _) rfl ?_;intro w4 hn4 hg4;have HQ4:=Aa hn4;have HL34:=Aa (((Le.refl w3).alloc _).box1 hg4 (Nat.le_refl _));clear hn4 hg4)
   have HL4:=Aa (HL3.out.trans HL34.out)
   have HX8:=Aa ((Le.refl w4).drew.heap (HL34.out.heap HX3.out))
   obtain⟨n8,hn8⟩:∃ n,n=w4.heap.size:=⟨_,rfl⟩
   have HN8:=Aa (show n8≤w4.drew.heap.size from by rw[hn8];exact Nat.le_refl _)
   have HM8:=Aa (show w1.heap.size≤n8 from by rw[hn8];exact HL4.out.size)
   clear hn8 hne hnb
   refine' Aj 6 5 35 Le (Is _::Is _::Is _::Is _::(fun v W=>∃ gr,v=.slice (some ⟨gr,0,none⟩) 1 1∧n8≤gr∧W.heap[gr]?=some (.cells #[.int .i64 k,.int .u64 0,.int .i64 er] 70 (0,0)))::Is _::[]) ([]::[0]::[]::[1,2]::[3]::[]::[]) (by kernel_rfl) (by kernel_rfl) (by rfl) (by kernel_rfl) (by kernel_rfl) Le.refl (fun _ _ _ h h'=>h.trans h') ⟨St.is,St.is,St.is,St.is,(fun _ _ _ hb h=>Exists.elim h fun g h=>⟨g,h.1,h.2.1,hb.heap h.2.2⟩),St.is,trivial⟩ ?m8
   case m8 =>
    simp (maxSteps:=100000000) only [AR,Bv,AK,AC,An,AD,Am,Au,Act.put,List.setIfInBounds_toArray,List.set_cons_succ,List.set_cons_zero,List.getElem?_cons_zero,List.getElem?_cons_succ,List.take_succ_cons,List.take_zero,List.drop_succ_cons,List.drop_zero,List.cons_append,List.nil_append,List.length_cons,List.length_nil,Nat.reduceAdd]
    intro x0 x1 x2 x3 x4 x5
    refine⟨⟨?_,?_,?_,?_,?_,?_,trivial⟩,?_⟩
    ·intro wo hw KQ hK;go_simp;exact hK _ _ .r .m
    ·intro wo hw h0 KQ hK;cases h0;have kk:=Af (hw.heap HX8.out) 0 (.int .i64 k) rfl wo (Le.refl _);go_simp;exact hK _ _ .r .m
    ·intro wo hw KQ hK;go_simp;exact hK _ _ .r .m
    ·intro wo hw h1 h2 KQ hK;cases h1;cases h2;go_simp;exact hK _ _ .r .m
    ·intro wo hw h3 KQ hK;cases h3;go_simp;exact hK _ _ ((Le.refl _).alloc _) ⟨_,rfl,Nat.le_trans HN8.out hw.size,heap_alloc_new _ _⟩
    ·intro wo hw KQ hK;go_simp;exact hK _ _ .r .m
    ·intro wz hz h0 h1 h2 h3 h4 h5;cases h0;cases h1;cases h2;cases h3;obtain⟨gr,rfl,hgr,HGR⟩:=h4;cases h5;skip
     have HL9:=Aa (HL4.out.trans ((Le.refl w4).drew.trans hz))
     have HG9:=Aa HGR
     have HGG:=Aa hgr
     clear hz HGR hgr
     go_wp2_with fail
     rw[HR.out]
     have hm:∀ p,C.accept (fun s=>(p,s))=(C1,[],[⟨k,0,er⟩]):=fun p=>by rw[HM.out,Ct.accept1,if_pos HE.out,← HER.out]
     refine⟨0,_,_,Bn g w1.heap.size 0,X,rfl,?_,?_,?_⟩
     ·rw[hm];exact .inl ⟨rfl,rfl⟩
     ·rw[hm];exact AA.single HG9.out rfl ⟨Nat.le_trans HSZ.out (Nat.le_trans HM8.out HGG.out),AM (Nat.le_trans HM8.out HGG.out)⟩
     ·rw[hm];exact HT1.out.trans (HT1.out.at_.re 0 HL9.out)
end
theorem Iy.le' {M:Nat→Prop} {w w':World} {d:Nat} {dd:Dd} (h:Iy M w d dd) (hl:Le w w'):Iy M w' d dd:=by
 obtain⟨mp,ov,h⟩:=h
 exact⟨mp,ov,h.fp (S:=fun _=>False) (Fp.of_le hl) (fun _ h=>h.elim)⟩
theorem Iy.mono' {M M':Nat→Prop} {w:World} {d:Nat} {dd:Dd} (h:Iy M w d dd) (hm:∀ k,k<w.heap.size→M k→M' k):Iy M' w d dd:=by
 obtain⟨mp,ov,h⟩:=h
 exact⟨mp,ov,h.mono hm⟩
theorem Iy.avoid {M:Nat→Prop} {w:World} {d:Nat} {dd:Dd} (h:Iy M w d dd) {k:Nat} {cs:Array Value} {T:Nat} {fr:Nat×Nat} (hk:w.heap[k]?=some (.cells cs T fr)) (h1:290≠T) (h2:28≠T):Iy (fun j=>M j∧j≠k) w d dd:=by
 obtain⟨mp,ov,h⟩:=h
 refine⟨mp,ov,h.hd,?_,h.hM,⟨h.Md,fun e=>AS h.hd hk h1 e⟩,⟨h.Mm,fun e=>h.hM.ne hk e⟩,h.r1,h.rm,h.ln,h.ids⟩
 exact h.hO.typed.mono fun j _ e=>⟨e.1,fun e2=>by
  obtain⟨_,cs',fr',e3⟩:=e
  rw[e2,hk] at e3
  injection e3 with e3
  injection e3 with _ e3 _
  exact h2 e3.symm⟩
def gNw (g:Nat→Nat) (n c Q A m k:Nat):Nat:=if k<n then g k else if k=c then 1 else if k=Q then 5 else if k=A then 5 else if k=m then 9 else 6
theorem gNw_old {g:Nat→Nat} {n c Q A m:Nat}:∀ k,k<n→gNw g n c Q A m k=g k:=fun k h=>by rw[gNw,if_pos h]
def CnwP (g:Nat→Nat) (w:World) (C:Ct (Nat×Nat)) (a p b:Nat) (e:Ending) (w':World):Prop :=
 ∃ c g' X,e=.returned (.pointer (some ⟨c,0,none⟩))∧Bg g' w' c X C∧X.ar=a∧X.pn=p∧X.bd=b∧Le w w'∧∀ k,k<w.heap.size→g' k=g k
theorem ctNew {g:Nat→Nat} {w:World} {a p b:Nat} (cf:Cf) (mp mt ms ml:Nat) {sl:List (ASl (Nat×Nat))} {pn:Pn} {bd:Bd} (ha:CM g w a sl) (hsl:∀ s∈sl,s.x=none) (hp:Fx g w p pn) (hb:DH g w b bd)
  (hs:1≤cf.shards∧cf.shards≤4) (hi:1≤cf.intake∧cf.intake≤4096) (hwn:1≤cf.window∧cf.window≤4096) (hk:1≤cf.keep∧cf.keep≤4096) (h1:1≤mp∧mp≤16) (h2:1≤mt∧mt≤16) (h3:1≤ms∧ms≤16) (h4:1≤ml∧ml≤64) :
  Calls Tryz.prog 53 #[.agg #[.int .i64 cf.shards,.int .i64 cf.intake,.int .i64 cf.window,.int .i64 cf.keep,.int .i64 mp,.int .i64 mt,.int .i64 ms,.int .i64 ml],.pointer (some ⟨a,0,none⟩),.pointer (some ⟨p,0,none⟩),.pointer (some ⟨b,0,none⟩)] w (CnwP g w ⟨cf,sl,pn,bd,[],⟨cf.window,[]⟩,DS.new mp mt ms ml,none,0,[],[]⟩ a p b):=by
 have hmm:=@run_makeMap Tryz.prog
 have HDL:=Aa (fun W=>dlNew W mp mt ms ml h1 h2 h3 h4)
 have HA:=Aa ha
 have HSL:=Aa hsl
 have HP:=Aa hp
 have HB:=Aa hb
 have HX0:=Aa (heap_alloc_new w (.cells #[.int .i64 cf.shards,.int .i64 cf.intake,.int .i64 cf.window,.int .i64 cf.keep,.int .i64 mp,.int .i64 mt,.int .i64 ms,.int .i64 ml] 38))
 have HL0:=Aa ((Le.refl w).alloc (.cells #[.int .i64 cf.shards,.int .i64 cf.intake,.int .i64 cf.window,.int .i64 cf.keep,.int .i64 mp,.int .i64 mt,.int .i64 ms,.int .i64 ml] 38))
 obtain⟨R,hR⟩:∃ R,R=CnwP g w ⟨cf,sl,pn,bd,[],⟨cf.window,[]⟩,DS.new mp mt ms ml,none,0,[],[]⟩ a p b:=⟨_,rfl⟩
 rw[← hR]
 have HR:=Aa hR
 clear hR ha hsl hp hb h1 h2 h3 h4
 go_enter Tryz.func53,Tryz.ntmps53
 go_upto_region 1 with fail
 generalize World.alloc w _=w1 at *
 generalize hx4:w.heap.size=x4 at *
 have HX4:=Aa hx4
 clear hx4
 have HX1d:=Aa ((Le.refl w1).drew.heap HX0.out)
 obtain⟨n1,hn1⟩:∃ n,n=w1.heap.size:=⟨_,rfl⟩
 have HN1:=Aa (show n1≤w1.drew.heap.size from by rw[hn1];exact Nat.le_refl _)
 have HN1x:=Aa (show x4<n1 from by rw[hn1];exact Ah HX0.out)
 clear hn1
 refine' AW 7 6 13 Le (IsD _::IsD _::(fun _ v W=>∃ Q A,v=.pointer (some ⟨Q,0,none⟩)∧QAt 284 159 2 W Q A cf.intake 0 []∧n1≤Q∧n1≤A)::IsD _::IsD _::(fun _ v W=>∃ d,v=.pointer (some ⟨d,0,none⟩)∧Iy (fun k=>n1≤k) W d ⟨cf.window,[]⟩)::(fun us v _=>v=(us[0]?).getD undef)::[]) ([]::[0]::[1]::[]::[3]::[4]::[2]::[]) (by kernel_rfl) (by kernel_rfl) (by rfl) (by kernel_rfl) (by kernel_rfl) Le.refl (fun _ _ _ h h'=>h.trans h') ⟨StD.is,StD.is,(fun _ _ _ _ hb h=>Exists.elim h fun Q h=>Exists.elim h fun A h=>⟨Q,A,h.1,h.2.1.le hb,h.2.2⟩),StD.is,StD.is,(fun _ _ _ _ hb h=>Exists.elim h fun d h=>⟨d,h.1,h.2.le' hb⟩),(fun _ _ _ _ _ h=>h),trivial⟩ ?m1
 case m1 =>
  simp (maxSteps:=100000000) only [AR,Hr,AU,AH,AE,B6,AD,Am,Au,Act.put,List.setIfInBounds_toArray,List.set_cons_succ,List.set_cons_zero,List.map_cons,List.getElem?_cons_zero,List.getElem?_cons_succ,Option.getD_some,List.map_nil,List.take_succ_cons,List.take_zero,List.drop_succ_cons,List.drop_zero,List.cons_append,List.nil_append,List.length_cons,List.length_nil,Nat.reduceAdd]
  intro x0 x1 x2 x3 x4 x5 x6
  refine⟨⟨?_,?_,?_,?_,?_,?_,?_,trivial⟩,?_⟩
  ·intro wo hw KQ hK;go_simp;exact hK _ _ .r .m
  ·intro wo hw h0 KQ hK;cases h0;have kk:=Af (hw.heap HX1d.out) 1 (.int .i64 cf.intake) rfl wo (Le.refl _);go_simp;exact hK _ _ .r .m
  ·intro wo hw h1 KQ hK;cases h1;go_simp;refine (qcNew_any wo cf.intake hi.1 hi.2).mono ?_;rintro e w' ⟨Q,A,rfl,hq,hl,hQ,hA⟩;exact hK _ _ hl ⟨Q,A,rfl,hq,Nat.le_trans (Nat.le_trans HN1.out hw.size) hQ,Nat.le_trans (Nat.le_trans HN1.out hw.size) hA⟩
  ·intro wo hw KQ hK;go_simp;exact hK _ _ .r .m
  ·intro wo hw h3 KQ hK;cases h3;have kk:=Af (hw.heap HX1d.out) 2 (.int .i64 cf.window) rfl wo (Le.refl _);go_simp;exact hK _ _ .r .m
  ·intro wo hw h4 KQ hK;cases h4;go_simp;refine (ddNew_any wo cf.window hwn.1 hwn.2).mono ?_;rintro e w' ⟨d,rfl,hd,hl⟩;exact hK _ _ hl ⟨d,rfl,hd.mono' fun k _ hk=>Nat.le_trans (Nat.le_trans HN1.out hw.size) hk⟩
  ·intro wo hw h2 KQ hK;obtain⟨Q,A,rfl,HQA,hQ,hA⟩:=h2;go_simp;exact hK _ _ (Le.refl _) rfl
  ·intro wz hz h0 h1 h2 h3 h4 h5 h6;cases h0;cases h1;obtain⟨Q,A,rfl,HQA,hQ,hA⟩:=h2;cases h3;cases h4;obtain⟨d,rfl,HDD⟩:=h5;cases h6;skip
   have hle:=(Le.refl w1).drew.trans hz
   have HL2:=Aa (HL0.out.trans hle)
   have HX2:=Aa (hle.heap HX0.out)
   have HQA2:=Aa HQA
   have HDD2:=Aa HDD
   have HQN:=Aa (And.intro hQ hA)
   clear hle hz HX1d HX0 HL0 HN1 hQ hA HQA HDD
   generalize wz=w2 at *
   go_wp2_with (refine CR rfl 36 (.tmp 20) rfl [.int .i64 cf.shards,.int .i64 cf.intake,.int .i64 cf.window,.int .i64 cf.keep] [.int .i64 mp,.int .i64 mt,.int .i64 ms,.int .i64 ml] [] _ rfl Tryz.underlying36 rfl (by kernel_rfl) HX2.out ?_)
   refine (HDL.out w2).mono ?_
   rintro e w3 ⟨rfl,hb3⟩
   have HL3:=Aa (Le.mk hb3)
   clear hb3
   go_upto_region 3 with (refine Ak rfl 62 (.tmp 11) (.tmp 23) (cs:=[.int .i64 mp,.int .i64 mt,.int .i64 ms,.int .i64 ml,.slice none 0 0,.slice none 0 0,.slice none 0 0]) rfl rfl rfl (by kernel_rfl) (GM rfl rfl rfl) (heap_alloc_new _ _) rfl ?_;intro w4 hn4 hg4;have HS4:=Aa hn4;have HL34:=Aa (((Le.refl w3).alloc _).box1 hg4 (Nat.le_refl _));clear hn4 hg4)
   have HL4:=Aa (HL3.out.trans HL34.out)
   have HX4b:=Aa (HL4.out.heap HX2.out)
   have k0:=Af HX4b.out 0 (.int .i64 cf.shards) rfl w4 (Le.refl _)
   have k3:=Af HX4b.out 3 (.int .i64 cf.keep) rfl w4 (Le.refl _)
   have i1:¬ (cf.shards:Int)<1:=by omega
   have i2:¬ 4<(cf.shards:Int):=by omega
   generalize w3.heap.size=x11 at *
   go_wp2_with fail
   refine (stNew w4 cf.keep hk.1 hk.2).mono ?_
   rintro e w5 ⟨ps,rfl,hl5⟩
   have HL5:=Aa (HL4.out.trans hl5)
   have HX5:=Aa (hl5.heap HX4b.out)
   have HS5:=Aa (hl5.heap HS4.out)
   clear hl5 k0 k3 HX4b HS4 HL34 HL3 HL4
   go_wp2_with (first | (refine Al rfl 38 (.tmp 4) rfl (cs:=[.int .i64 cf.shards,.int .i64 cf.intake,.int .i64 cf.window,.int .i64 cf.keep,.int .i64 mp,.int .i64 mt,.int .i64 ms,.int .i64 ml]) _ rfl Tryz.underlying38 rfl (by kernel_rfl) HX5.out ?_) | (refine Al rfl 62 (.tmp 11) rfl (cs:=[.int .i64 mp,.int .i64 mt,.int .i64 ms,.int .i64 ml,.slice none 0 0,.slice none 0 0,.slice none 0 0]) _ rfl Tryz.underlying62 rfl (by kernel_rfl) HS5.out ?_))
   rw[HR.out]
   have hle5:=HL2.out.trans HL5.out
   have hs2:=HL5.out.size
   have hx4:=HX4.out
   have hn1x:=HN1x.out
   have hqn:=HQN.out
   have hqs:=Ah HQA2.out.hQ
   obtain⟨cur,hcA,_⟩:=HQA2.out.hA
   have has:=Ah hcA
   have hs6:(w5.alloc (.map #[] 0)).heap.size=w5.heap.size+1:=by show (w5.heap.push _).size=_;rw[Array.size_push]
   have LF:=(hle5.alloc (.map #[] 0)).alloc (.cells #[.int .i64 cf.shards,.int .i64 cf.intake,.int .i64 cf.window,.int .i64 cf.keep,.int .i64 mp,.int .i64 mt,.int .i64 ms,.int .i64 ml,.pointer (some ⟨a,0,none⟩),.pointer (some ⟨p,0,none⟩),.pointer (some ⟨b,0,none⟩),.pointer (some ⟨Q,0,none⟩),.pointer (some ⟨d,0,none⟩),.int .i64 mp,.int .i64 mt,.int .i64 ms,.int .i64 ml,.slice none 0 0,.slice none 0 0,.slice none 0 0,.pointer none,.int .u32 0,.map (some w5.heap.size),.slice none 0 0] 156)
   have L2F:=(HL5.out.alloc (.map #[] 0)).alloc (.cells #[.int .i64 cf.shards,.int .i64 cf.intake,.int .i64 cf.window,.int .i64 cf.keep,.int .i64 mp,.int .i64 mt,.int .i64 ms,.int .i64 ml,.pointer (some ⟨a,0,none⟩),.pointer (some ⟨p,0,none⟩),.pointer (some ⟨b,0,none⟩),.pointer (some ⟨Q,0,none⟩),.pointer (some ⟨d,0,none⟩),.int .i64 mp,.int .i64 mt,.int .i64 ms,.int .i64 ml,.slice none 0 0,.slice none 0 0,.slice none 0 0,.pointer none,.int .u32 0,.map (some w5.heap.size),.slice none 0 0] 156)
   have hg:∀ k,k<w.heap.size→gNw g w.heap.size (w5.heap.size+1) Q A w5.heap.size k=g k:=gNw_old
   have hno:∀ k,False→g k≠0:=fun _ h=>h.elim
   refine⟨w5.heap.size+1,gNw g w.heap.size (w5.heap.size+1) Q A w5.heap.size,⟨a,p,b,Q,d,w5.heap.size,none,.slice none 0 0,.slice none 0 0,.slice none 0 0,.slice none 0 0⟩,rfl,⟨EZ hs6,?_,HA.out.mv (S:=fun _=>False) (Fp.of_le LF) (fun _ h=>h.elim) hg,fun s hs' q hq=>?_,HP.out.mv (S:=fun _=>False) (Fp.of_le LF) (fun _ h=>h.elim) hg,HB.out.mv (S:=fun _=>False) (Fp.of_le LF) (fun _ h=>h.elim) hg,⟨A,0,[],HQA2.out.le L2F,?_,?_,F2.nil⟩,?_,⟨[],AA.nil,AA.nil,AA.nil,rfl,fun t ht=>by cases ht⟩,trivial,⟨(Bz.made Tryz.prog w5 _).le ((Le.refl _).alloc _),?_⟩,⟨[],OwO.nil,F2.nil,List.nodup_nil,List.Pairwise.nil⟩⟩,rfl,rfl,rfl,LF,hg⟩
   ·rw[gNw,if_neg (by omega),if_pos rfl]
   ·rw[HSL.out s hs'] at hq;cases hq
   ·show gNw g w.heap.size (w5.heap.size+1) Q A w5.heap.size Q=5
    rw[gNw,if_neg (by omega),if_neg (by omega),if_pos rfl]
   ·rw[gNw,if_neg (by omega),if_neg (by omega)]
    split
    ·rfl
    ·rw[if_pos rfl]
   ·have h9:=(HDD2.out.avoid HQA2.out.hQ (by decide) (by decide)).avoid hcA (by decide) (by decide)
    exact (h9.mono' (M':=tg (gNw g w.heap.size (w5.heap.size+1) Q A w5.heap.size) 6) fun k hk e=>by
     obtain⟨⟨e1,e2⟩,e3⟩:=e
     show gNw g w.heap.size (w5.heap.size+1) Q A w5.heap.size k=6
     rw[gNw,if_neg (by omega),if_neg (by omega),if_neg e2,if_neg e3,if_neg (by omega)]).le' L2F
   ·show gNw g w.heap.size (w5.heap.size+1) Q A w5.heap.size w5.heap.size=9
    rw[gNw,if_neg (by omega),if_neg (by omega),if_neg (by omega),if_neg (by omega),if_pos rfl]
end Go.Proofs.YtmcndlofaanjiaaGreat
