/- Texts of one claim, laid together: CtU CtS ReqAns CtA -/
import Derived.Test.YtmcndlofaanjiaaGreatJo31
import Derived.Test.YtmcndlofaanjiaaGreatJo08
import Derived.Test.YtmcndlofaanjiaaGreatJo10
import Derived.Test.YtmcndlofaanjiaaGreatJo28
/- control in memory: one part changes;Call,Table,Waiting,Idle. (Written by gen_ctu.py.) -/
namespace Go.Proofs.YtmcndlofaanjiaaGreat
open Go.RowKit
set_option linter.unusedVariables false
set_option maxRecDepth 100000
set_option maxHeartbeats 8000000
def Bn (g:Nat→Nat) (n i k:Nat):Nat:=if k<n then g k else i
theorem Az {g:Nat→Nat} {n i:Nat}:∀ k,k<n→Bn g n i k=g k:=fun k h=>by rw[Bn,if_pos h]
theorem AM {g:Nat→Nat} {n i k:Nat} (h:n≤k):Bn g n i k=i:=by rw[Bn,if_neg (by omega)]
structure Bj (g:Nat→Nat) (w:World) (c:Nat) (X:CtX) (g':Nat→Nat) (w':World) (X':CtX) (C':Ct (Nat×Nat)):Prop where
 at_:Bg g' w' c X' C'
 re:∀ k,k<w.heap.size→g' k=g k
 ar:X'.ar=X.ar
 pn:X'.pn=X.pn
 bd:X'.bd=X.bd
 fp:Fp (fun k=>g k≠0) w w'
section
variable {g g' g'':Nat→Nat} {w w' w'':World} {S:Nat→Prop} {c:Nat} {X X' X'':CtX} {C C' C'':Ct (Nat×Nat)}
theorem Bj.same (h:Bg g w c X C) (hl:Le w w'):Bj g w c X g w' X C:=⟨h.le hl,fun _ _=>rfl,rfl,rfl,rfl,Fp.of_le hl⟩
theorem Fp.re (h:Fp (fun k=>g k≠0) w w') (h':Fp (fun k=>g' k≠0) w' w'') (hr:∀ k,k<w.heap.size→g' k=g k):Fp (fun k=>g k≠0) w w'' :=
 ⟨h'.os.trans h.os,h'.tape.trans h.tape,h'.output.trans h.output,Nat.le_trans h.size h'.size,fun k hk hn=>(h'.block k (Nat.lt_of_lt_of_le hk h.size) (fun e=>hn (by rw[← hr k hk];exact e))).trans (h.block k hk hn)⟩
theorem Bj.trans {C1:Ct (Nat×Nat)} (h:Bj g w c X g' w' X' C1) (h':Bj g' w' c X' g'' w'' X'' C'):Bj g w c X g'' w'' X'' C' :=
 ⟨h'.at_,fun k hk=>(h'.re k (Nat.lt_of_lt_of_le hk h.fp.size)).trans (h.re k hk),h'.ar.trans h.ar,h'.pn.trans h.pn,h'.bd.trans h.bd,Fp.re h.fp h'.fp h.re⟩
theorem Bj.le (h:Bj g w c X g' w' X' C') (hl:Le w' w''):Bj g w c X g' w'' X' C':=h.trans (Bj.same h.at_ hl)
theorem Bj.pre (hl:Le w w') (h:Bj g w' c X g' w'' X' C'):Bj g w c X g' w'' X' C' :=
 ⟨h.at_,fun k hk=>h.re k (Nat.lt_of_lt_of_le hk hl.size),h.ar,h.pn,h.bd,(Fp.of_le hl).trans h.fp⟩
theorem Bg.setCalls (h:Bg g w c X C) (hf:Fp S w w') (hs:∀ k,S k→g k=5) (hg:∀ k,k<w.heap.size→g' k=g k) (l:List (Int×List UInt8)) (hi:D5 g' w' X.iq C.cf.intake l):Bj g w c X g' w' (X) ({ C with calls:=l }):=by
 have hn:∀ j,j≠5→∀ k,S k→g k≠j:=fun j hj k hk e=>by
  rcases hs k hk with e1<;>omega
 exact⟨⟨hf.heap h.hc (fun e=>hn 1 (by decide) _ e h.gc),(hg _ (Ah h.hc)).trans h.gc,h.ar.mv hf (hn 2 (by decide)) hg,h.dn.mv hf (hn 11 (by decide)) hg,h.pn.mv hf (hn 3 (by decide)) hg,h.bd.mv hf (fun k hk=>⟨hn 4 (by decide) k hk,hn 8 (by decide) k hk⟩) hg,hi,h.sn.mv hf (hn 6 (by decide)) hg,h.st.mv hf (hn 7 (by decide)) hg,h.tb.mv hf (hn 8 (by decide)) hg,h.sm.mv hf (hn 9 (by decide)) hg,h.wt.mv hf (hn 10 (by decide)) hg⟩,hg,rfl,rfl,rfl,hf.mono (fun k hk=>hn 0 (by decide) k hk)⟩
theorem Bg.setPins (h:Bg g w c X C) (hf:Fp S w w') (hs:∀ k,S k→g k=3) (hg:∀ k,k<w.heap.size→g' k=g k) (p:Pn) (hi:Fx g' w' X.pn p):Bj g w c X g' w' (X) ({ C with pins:=p }):=by
 have hn:∀ j,j≠3→∀ k,S k→g k≠j:=fun j hj k hk e=>by
  rcases hs k hk with e1<;>omega
 exact⟨⟨hf.heap h.hc (fun e=>hn 1 (by decide) _ e h.gc),(hg _ (Ah h.hc)).trans h.gc,h.ar.mv hf (hn 2 (by decide)) hg,h.dn.mv hf (hn 11 (by decide)) hg,hi,h.bd.mv hf (fun k hk=>⟨hn 4 (by decide) k hk,hn 8 (by decide) k hk⟩) hg,h.iq.mv hf (hn 5 (by decide)) hg,h.sn.mv hf (hn 6 (by decide)) hg,h.st.mv hf (hn 7 (by decide)) hg,h.tb.mv hf (hn 8 (by decide)) hg,h.sm.mv hf (hn 9 (by decide)) hg,h.wt.mv hf (hn 10 (by decide)) hg⟩,hg,rfl,rfl,rfl,hf.mono (fun k hk=>hn 0 (by decide) k hk)⟩
theorem Bg.setSlots (h:Bg g w c X C) (hf:Fp S w w') (hs:∀ k,S k→g k=2) (hg:∀ k,k<w.heap.size→g' k=g k) (l:List (ASl (Nat×Nat))) (hi:CM g' w' X.ar l) (hd:In g' w' l):Bj g w c X g' w' (X) ({ C with slots:=l }):=by
 have hn:∀ j,j≠2→∀ k,S k→g k≠j:=fun j hj k hk e=>by
  rcases hs k hk with e1<;>omega
 exact⟨⟨hf.heap h.hc (fun e=>hn 1 (by decide) _ e h.gc),(hg _ (Ah h.hc)).trans h.gc,hi,hd,h.pn.mv hf (hn 3 (by decide)) hg,h.bd.mv hf (fun k hk=>⟨hn 4 (by decide) k hk,hn 8 (by decide) k hk⟩) hg,h.iq.mv hf (hn 5 (by decide)) hg,h.sn.mv hf (hn 6 (by decide)) hg,h.st.mv hf (hn 7 (by decide)) hg,h.tb.mv hf (hn 8 (by decide)) hg,h.sm.mv hf (hn 9 (by decide)) hg,h.wt.mv hf (hn 10 (by decide)) hg⟩,hg,rfl,rfl,rfl,hf.mono (fun k hk=>hn 0 (by decide) k hk)⟩
theorem Bg.setSeen (h:Bg g w c X C) (hf:Fp S w w') (hs:∀ k,S k→g k=6) (hg:∀ k,k<w.heap.size→g' k=g k) (d:Dd) (hi:Im g' w' X.sn d):Bj g w c X g' w' (X) ({ C with seen:=d }):=by
 have hn:∀ j,j≠6→∀ k,S k→g k≠j:=fun j hj k hk e=>by
  rcases hs k hk with e1<;>omega
 exact⟨⟨hf.heap h.hc (fun e=>hn 1 (by decide) _ e h.gc),(hg _ (Ah h.hc)).trans h.gc,h.ar.mv hf (hn 2 (by decide)) hg,h.dn.mv hf (hn 11 (by decide)) hg,h.pn.mv hf (hn 3 (by decide)) hg,h.bd.mv hf (fun k hk=>⟨hn 4 (by decide) k hk,hn 8 (by decide) k hk⟩) hg,h.iq.mv hf (hn 5 (by decide)) hg,hi,h.st.mv hf (hn 7 (by decide)) hg,h.tb.mv hf (hn 8 (by decide)) hg,h.sm.mv hf (hn 9 (by decide)) hg,h.wt.mv hf (hn 10 (by decide)) hg⟩,hg,rfl,rfl,rfl,hf.mono (fun k hk=>hn 0 (by decide) k hk)⟩
theorem Bg.setSeats (h:Bg g w c X C) (hf:Fp S w w') (hs:∀ k,S k→g k=9) (hg:∀ k,k<w.heap.size→g' k=g k) (l:List C0) (hi:F3 g' w' X.sm l):Bj g w c X g' w' (X) ({ C with seats:=l }):=by
 have hn:∀ j,j≠9→∀ k,S k→g k≠j:=fun j hj k hk e=>by
  rcases hs k hk with e1<;>omega
 exact⟨⟨hf.heap h.hc (fun e=>hn 1 (by decide) _ e h.gc),(hg _ (Ah h.hc)).trans h.gc,h.ar.mv hf (hn 2 (by decide)) hg,h.dn.mv hf (hn 11 (by decide)) hg,h.pn.mv hf (hn 3 (by decide)) hg,h.bd.mv hf (fun k hk=>⟨hn 4 (by decide) k hk,hn 8 (by decide) k hk⟩) hg,h.iq.mv hf (hn 5 (by decide)) hg,h.sn.mv hf (hn 6 (by decide)) hg,h.st.mv hf (hn 7 (by decide)) hg,h.tb.mv hf (hn 8 (by decide)) hg,hi,h.wt.mv hf (hn 10 (by decide)) hg⟩,hg,rfl,rfl,rfl,hf.mono (fun k hk=>hn 0 (by decide) k hk)⟩
theorem Bg.setBoard (h:Bg g w c X C) (hf:Fp S w w') (hs:∀ k,S k→g k=4) (hg:∀ k,k<w.heap.size→g' k=g k) (b:Bd) (hi:DH g' w' X.bd b):Bj g w c X g' w' (X) ({ C with board:=b }):=by
 have hn:∀ j,j≠4→∀ k,S k→g k≠j:=fun j hj k hk e=>by
  rcases hs k hk with e1<;>omega
 exact⟨⟨hf.heap h.hc (fun e=>hn 1 (by decide) _ e h.gc),(hg _ (Ah h.hc)).trans h.gc,h.ar.mv hf (hn 2 (by decide)) hg,h.dn.mv hf (hn 11 (by decide)) hg,h.pn.mv hf (hn 3 (by decide)) hg,hi,h.iq.mv hf (hn 5 (by decide)) hg,h.sn.mv hf (hn 6 (by decide)) hg,h.st.mv hf (hn 7 (by decide)) hg,h.tb.mv hf (hn 8 (by decide)) hg,h.sm.mv hf (hn 9 (by decide)) hg,h.wt.mv hf (hn 10 (by decide)) hg⟩,hg,rfl,rfl,rfl,hf.mono (fun k hk=>hn 0 (by decide) k hk)⟩
theorem Bg.setWaits (h:Bg g w c X C) (hf:Fp S w w') (hs:∀ k,S k→g k=10) (hg:∀ k,k<w.heap.size→g' k=g k) (l:List Wt) (hi:DP g' w' X.wv l):Bj g w c X g' w' (X) ({ C with waits:=l }):=by
 have hn:∀ j,j≠10→∀ k,S k→g k≠j:=fun j hj k hk e=>by
  rcases hs k hk with e1<;>omega
 exact⟨⟨hf.heap h.hc (fun e=>hn 1 (by decide) _ e h.gc),(hg _ (Ah h.hc)).trans h.gc,h.ar.mv hf (hn 2 (by decide)) hg,h.dn.mv hf (hn 11 (by decide)) hg,h.pn.mv hf (hn 3 (by decide)) hg,h.bd.mv hf (fun k hk=>⟨hn 4 (by decide) k hk,hn 8 (by decide) k hk⟩) hg,h.iq.mv hf (hn 5 (by decide)) hg,h.sn.mv hf (hn 6 (by decide)) hg,h.st.mv hf (hn 7 (by decide)) hg,h.tb.mv hf (hn 8 (by decide)) hg,h.sm.mv hf (hn 9 (by decide)) hg,hi⟩,hg,rfl,rfl,rfl,hf.mono (fun k hk=>hn 0 (by decide) k hk)⟩
theorem Bg.setBlock (h:Bg g w c X C) (hf:Fp S w w') (hs:∀ k,S k→g k=1) (hg:∀ k,k<w.heap.size→g' k=g k) (C':Ct (Nat×Nat)) (X':CtX) (hX:X'.ar=X.ar∧X'.pn=X.pn∧X'.bd=X.bd∧X'.iq=X.iq∧X'.sn=X.sn∧X'.sm=X.sm) (hC:C'.slots=C.slots∧C'.pins=C.pins∧C'.board=C.board∧C'.cf=C.cf∧C'.calls=C.calls∧C'.seen=C.seen∧C'.seats=C.seats) (hb:w'.heap[c]?=some (.cells (ctC C'.cf C'.s X' C'.ever).toArray 156 (0,0))) (hst:FH g' w' C'.s X'.pv X'.tv X'.sv) (htb:TbO (tg g' 8) w' X'.tb C'.t) (hwt:DP g' w' X'.wv C'.waits):Bj g w c X g' w' (X') (C'):=by
 have hn:∀ j,j≠1→∀ k,S k→g k≠j:=fun j hj k hk e=>by
  rcases hs k hk with e1<;>omega
 exact⟨⟨hb,(hg _ (Ah h.hc)).trans h.gc,by rw[hX.1,hC.1];exact h.ar.mv hf (hn 2 (by decide)) hg,by rw[hC.1];exact h.dn.mv hf (hn 11 (by decide)) hg,by rw[hX.2.1,hC.2.1];exact h.pn.mv hf (hn 3 (by decide)) hg,by rw[hX.2.2.1,hC.2.2.1];exact h.bd.mv hf (fun k hk=>⟨hn 4 (by decide) k hk,hn 8 (by decide) k hk⟩) hg,by rw[hX.2.2.2.1,hC.2.2.2.1,hC.2.2.2.2.1];exact h.iq.mv hf (hn 5 (by decide)) hg,by rw[hX.2.2.2.2.1,hC.2.2.2.2.2.1];exact h.sn.mv hf (hn 6 (by decide)) hg,hst,htb,by rw[hX.2.2.2.2.2,hC.2.2.2.2.2.2];exact h.sm.mv hf (hn 9 (by decide)) hg,hwt⟩,hg,hX.1,hX.2.1,hX.2.2.1,hf.mono (fun k hk=>hn 0 (by decide) k hk)⟩
theorem AA.ofQ {M:Nat→Prop} {T s TQ TE s' Q A R f:Nat} {v:Value} {xs vs:List (List Value)} (h:AA M w T s v xs) (hq:QAt TQ TE s' w Q A R f vs) (h1:T≠TQ) (h2:T≠TE) (hf:Fp (qS Q A) w w'):AA M w' T s v xs :=
 ⟨Bp h.own hf (fun k hk e=>by
  obtain⟨cur,hA,_⟩:=hq.hA
  rcases e with rfl | rfl
  ·exact h.row_ne hq.hQ h1 hk
  ·exact h.row_ne hA h2 hk),h.blk,h.len⟩
theorem ctTable (h:Bg g w c X C):Calls Tryz.prog 21 #[.pointer (some ⟨c,0,none⟩)] w (Ax w (Cp X.tb)):=by
 have y:w.cell? ⟨c,20,none⟩=some (Cp X.tb):=Ae h.hc 20
 clear h
 generalize Cp X.tb=v at *
 go_enter Tryz.func21,Tryz.ntmps21
 go_wp2_with fail
 go_ret
 exact⟨rfl,(Le.refl w).out⟩
theorem ctCall (h:Bg g w c X C) (n:Int) (b:List UInt8) (A:Option Addr) (cap:Nat) (hb:Bk w A (b.map u8C).flatten) (hA:A=none→b.length=0∧cap=0) (hl:b.length≤1000000) :
  Calls Tryz.prog 15 #[.pointer (some ⟨c,0,none⟩),.int .i64 n,.slice A b.length cap] w fun e w'=>e=.returned (.bool (C.call n b).2)∧∃ g',Bj g w c X g' w' X (C.call n b).1:=by
 have H0:=Aa h
 have HBC:=Aa (AI hb (Le.refl w).drew)
 have HAN:=Aa hA
 have HBL:=Aa hl
 have HC1:=Aa ((Le.refl w).drew.heap (show w.heap[c]?=some (.cells #[.int .i64 C.cf.shards,.int .i64 C.cf.intake,.int .i64 C.cf.window,.int .i64 C.cf.keep,.int .i64 C.s.mp,.int .i64 C.s.mt,.int .i64 C.s.ms,.int .i64 C.s.ml,.pointer (some ⟨X.ar,0,none⟩),.pointer (some ⟨X.pn,0,none⟩),.pointer (some ⟨X.bd,0,none⟩),.pointer (some ⟨X.iq,0,none⟩),.pointer (some ⟨X.sn,0,none⟩),.int .i64 C.s.mp,.int .i64 C.s.mt,.int .i64 C.s.ms,.int .i64 C.s.ml,X.pv,X.tv,X.sv,Cp X.tb,.int .u32 C.ever,.map (some X.sm),X.wv] 156 (0,0)) from h.hc))
 obtain⟨R,hR⟩:∃ R:Ending→World→Prop,R=fun e w'=>e=.returned (.bool (C.call n b).2)∧∃ g',Bj g w c X g' w' X (C.call n b).1:=⟨_,rfl⟩
 rw[← hR]
 have HR:=Aa hR
 clear hR h hb hA hl
 go_enter Tryz.func15,Tryz.ntmps15
 go_upto_region 1 with fail
 refine' AW 11 11 7 Le (IsD _::IsD _::IsD _::IsD _::IsD _::IsD _::IsD _::IsD _::IsD _::(fun _ v W=>AA (fun k=>w.drew.heap.size≤k) W 5 1 v (b.map u8C))::(fun _ v W=>∃ bv,v=.agg #[.int .i64 n,bv]∧AA (fun k=>w.drew.heap.size≤k) W 5 1 bv (b.map u8C))::[]) ([]::[0]::[1]::[2]::[2,3]::[2,4]::[2,5]::[2]::[2]::[2,8]::[2,7,9]::[]) (by kernel_rfl) (by kernel_rfl) (by rfl) (by kernel_rfl) (by kernel_rfl) Le.refl (fun _ _ _ h h'=>h.trans h') ⟨StD.is,StD.is,StD.is,StD.is,StD.is,StD.is,StD.is,StD.is,StD.is,(fun _ _ _ _ hb h=>h.le hb),(fun _ _ _ _ hb h=>Exists.elim h fun bv h=>⟨bv,h.1,h.2.le hb⟩),trivial⟩ ?m1
 case m1 =>
  simp (maxSteps:=100000000) only [AR,Hr,AU,AH,AE,B6,AD,Am,Au,List.set_cons_succ,List.set_cons_zero,List.map_cons,List.getElem?_cons_zero,List.getElem?_cons_succ,Option.getD_some,List.map_nil,List.take_succ_cons,List.take_zero,List.drop_succ_cons,List.drop_zero,List.cons_append,List.nil_append,List.length_cons,List.length_nil,Nat.reduceAdd]
  intro x0 x1 x2 x3 x4 x5 x6 x7 x8 x9 x10
  refine⟨⟨?_,?_,?_,?_,?_,?_,?_,?_,?_,?_,?_,trivial⟩,?_⟩
  ·intro wo hw KQ hK;go_simp;exact hK _ _ .r .m
  ·intro wo hw h0 KQ hK;cases h0;go_simp;exact hK _ _ .r .m
  ·intro wo hw h1 KQ hK;cases h1;go_simp;exact hK _ _ .r .m
  ·intro wo hw h2 KQ hK;cases h2;go_simp;exact hK _ _ .r .m
  ·intro wo hw h2 h3 KQ hK;cases h2;cases h3;go_simp;exact hK _ _ .r .m
  ·intro wo hw h2 h4 KQ hK;cases h2;cases h4;go_simp;exact hK _ _ .r .m
  ·intro wo hw h2 h5 KQ hK;cases h2;cases h5;have kk:=Af (hw.heap HC1.out) 11 (.pointer (some ⟨X.iq,0,none⟩)) rfl wo (Le.refl _);go_simp;exact hK _ _ .r .m
  ·intro wo hw h2 KQ hK;cases h2;go_simp;exact hK _ _ .r .m
  ·intro wo hw h2 KQ hK;cases h2;go_simp;exact hK _ _ .r .m
  ·intro wo hw h2 h8 KQ hK;cases h2;cases h8;go_simp;refine (clone_u8 wo A b.length cap (b.map u8C).flatten (AI HBC.out hw) (by rw[AJ (s:=1) (by intro y hy;obtain⟨p,_,rfl⟩:=List.mem_map.1 hy;rfl),List.length_map]) HAN.out HBL.out (by intro u hu;obtain⟨y,hy,hu⟩:=List.mem_flatten.1 hu;obtain⟨z,_,rfl⟩:=List.mem_map.1 hy;simp only[u8C,List.mem_singleton] at hu;rw[hu];rfl)).mono ?_;rintro e w' ⟨v8,rfl,hown,hle8⟩;exact hK _ _ hle8 ((AA.of_base (ys:=b.map u8C) hown (by rw[List.length_map]) (by intro y hy;obtain⟨p,_,rfl⟩:=List.mem_map.1 hy;rfl)).mono (fun k _ hk=>Nat.le_trans hw.size hk))
  ·intro wo hw h2 h7 h9 KQ hK;cases h2;cases h7;obtain⟨A12,c12,hv12,_⟩:=AA.cells h9;rw[List.length_map] at hv12;subst hv12;go_simp;exact hK _ _ (Le.refl _) ⟨_,rfl,h9⟩
  ·intro wz hz h0 h1 h2 h3 h4 h5 h6 h7 h8 h9 h10;cases h0;cases h1;cases h2;cases h3;cases h4;cases h5;cases h6;cases h7;cases h8;obtain⟨bv,rfl,HBV⟩:=h10;skip
   have HLZ:=Aa ((Le.refl w).drew.trans hz)
   obtain⟨A9,c9,hv9,_⟩:=AA.cells HBV
   rw[List.length_map] at hv9
   subst hv9
   have HBW:=Aa HBV
   obtain⟨qA,qF,vs,hq⟩:=H0.out.iq
   have HQ:=Aa hq
   clear hz HBV hq h9 HC1
   go_wp2_with fail
   refine (qcPush (HQ.out.qa.le HLZ.out) n A9 b.length c9).mono ?_
   rintro e w5 ⟨rfl,hq5,hf5⟩
   have HQ5:=Aa hq5
   have HF5:=Aa hf5
   clear hq5 hf5
   go_wp2_with fail
   rw[HR.out]
   have hlen:=HQ.out.vs.len
   have hsub:∀ k,qS X.iq qA k→g k=5:=fun k hk=>by rcases hk with rfl | rfl;exact HQ.out.gq;exact HQ.out.gA
   have hfp:Fp (fun k=>g k=5) w w5:=(Fp.of_le HLZ.out).trans (HF5.out.mono hsub)
   have hold:F2 (CallIs (Bn g w.heap.size 5) w5) vs C.calls:=HQ.out.vs.imp fun v x _ _ hv=>by
    obtain⟨bv,e,ho⟩:=hv
    have h1:=(ho.mono (M':=fun k=>tg g 5 k∧k<w.heap.size) (fun k hk h=>⟨h,hk⟩)).le HLZ.out
    exact⟨bv,e,(h1.ofQ (HQ.out.qa.le HLZ.out) (by decide) (by decide) HF5.out).mono fun k _ e=>(Az k e.2).trans e.1⟩
   have hgq:Bn g w.heap.size 5 X.iq=5:=(Az _ (Ah HQ.out.qa.hQ)).trans HQ.out.gq
   have hgA:Bn g w.heap.size 5 qA=5:=by
    obtain⟨cur,hA,_⟩:=HQ.out.qa.hA
    exact (Az _ (Ah hA)).trans HQ.out.gA
   have hq9:=HQ5.out
   by_cases hr:C.calls.length<C.cf.intake
   ·have hE:C.call n b=({ C with calls:=C.calls++[(n,b)] },true):=by rw[Ct.call,if_pos hr]
    rw[if_pos (by rw[hlen];exact hr)] at hq9
    rw[hE,decide_eq_true (by rw[hlen];exact hr)]
    exact⟨rfl,_,H0.out.setCalls hfp (fun k hk=>hk) Az _ ⟨qA,qF,_,hq9,hgq,hgA,hold.append (F2.one ⟨_,rfl,(HBW.out.ofQ (HQ.out.qa.le HLZ.out) (by decide) (by decide) HF5.out).mono fun k _ hk=>AM hk⟩)⟩⟩
   ·have hE:C.call n b=(C,false):=by rw[Ct.call,if_neg hr]
    rw[if_neg (by rw[hlen];exact hr)] at hq9
    rw[hE,decide_eq_false (by rw[hlen];exact hr)]
    exact⟨rfl,_,H0.out.setCalls hfp (fun k hk=>hk) Az C.calls ⟨qA,qF,_,hq9,hgq,hgA,hold⟩⟩
theorem ctIdle (h:Bg g w c X C):Calls Tryz.prog 29 #[.pointer (some ⟨c,0,none⟩)] w (Ax w (.bool (decide (C.calls.length=0)&&decide (C.waits.length=0)))):=by
 obtain⟨qA,qF,vs,hq⟩:=h.iq
 obtain⟨ws,hws⟩:=h.wt
 obtain⟨Aw,cw,hwv⟩:=hws.row.slice
 rw[List.length_map,hws.pd.len] at hwv
 have HLEN:=Aa hq.vs.len
 have HQ:=Aa hq
 have HC0:=Aa (show w.heap[c]?=some (.cells #[.int .i64 C.cf.shards,.int .i64 C.cf.intake,.int .i64 C.cf.window,.int .i64 C.cf.keep,.int .i64 C.s.mp,.int .i64 C.s.mt,.int .i64 C.s.ms,.int .i64 C.s.ml,.pointer (some ⟨X.ar,0,none⟩),.pointer (some ⟨X.pn,0,none⟩),.pointer (some ⟨X.bd,0,none⟩),.pointer (some ⟨X.iq,0,none⟩),.pointer (some ⟨X.sn,0,none⟩),.int .i64 C.s.mp,.int .i64 C.s.mt,.int .i64 C.s.ms,.int .i64 C.s.ml,X.pv,X.tv,X.sv,Cp X.tb,.int .u32 C.ever,.map (some X.sm),.slice Aw C.waits.length cw] 156 (0,0)) by have:=h.hc;rw[← hwv];exact this)
 have k1:w.cell? ⟨c,11,none⟩=some (.pointer (some ⟨X.iq,0,none⟩)):=Ae h.hc 11
 obtain⟨R,hR⟩:∃ R,R=Ax w (.bool (decide (C.calls.length=0)&&decide (C.waits.length=0))):=⟨_,rfl⟩
 rw[← hR]
 have HR:=Aa hR
 clear hR h hq hws hwv
 go_enter Tryz.func29,Tryz.ntmps29
 go_wp2_with fail
 refine (qcLen HQ.out.qa).mono ?_
 rintro e w2 ⟨rfl,hb⟩
 have HL:=Aa (Le.mk hb)
 have k2:=Af ((Le.mk hb).heap HC0.out) 23 (.slice Aw C.waits.length cw) rfl w2 (Le.refl _)
 rw[HLEN.out]
 clear hb k1
 by_cases h1:C.calls.length=0
 ·have z1:((C.calls.length:Int)==0)=true:=by rw[beq_iff_eq];omega
  have H1:=Aa h1
  clear h1
  by_cases h2:C.waits.length=0
  ·have z2:((C.waits.length:Int)==0)=true:=by rw[beq_iff_eq];omega
   have H2:=Aa h2
   clear h2
   go_wp2_with fail
   rw[HR.out]
   exact⟨by simp[H1.out,H2.out],HL.out.out⟩
  ·have z2:((C.waits.length:Int)==0)=false:=by rw[beq_eq_false_iff_ne];omega
   have H2:=Aa h2
   clear h2
   go_wp2_with fail
   rw[HR.out]
   exact⟨by simp[H2.out],HL.out.out⟩
 ·have z1:((C.calls.length:Int)==0)=false:=by rw[beq_eq_false_iff_ne];omega
  have H1:=Aa h1
  clear h1
  go_wp2_with fail
  rw[HR.out]
  exact⟨by simp[H1.out],HL.out.out⟩
end
def ansL (id e:Nat):List (Nat×Int):=[(id,8),(e,1)]
theorem Hx (id e:Nat) (w:World) (h1:(id:Int)<18446744073709551616) (h2:e<256) :
  Calls Tryz.prog 126 #[.int .u64 id,.int .i64 e] w (Owns8 w (Ez (ansL id e))):=by
 have hwr:IntKind.u64.wrap ((e:Nat):Int)=e:=IntWalk.u64_in _ (by omega)
 have HP:=Aa (F8 (l:=ansL id e) (n:=2) (cap:=2) rfl (Nat.le_refl _) (by intro p hp;simp[ansL] at hp;rcases hp with rfl | rfl<;>simp only<;>omega) (Dq w [.int .u64 id,.int .i64 8,.int .u64 e,.int .i64 1] 193))
 clear h1
 go_enter Tryz.func126,Tryz.ntmps126
 go_wp2_with fail
 refine (put_any _ _ _ _ _ HP.out (by omega)).mono ?_
 rintro r w2 ⟨v,rfl,ho,hb⟩
 have hB:=((Below.refl w.heap.size w).alloc (Nat.le_refl _) _).trans (hb.mono (AQ (Nat.le_refl _)))
 have HO:=Aa (He ho (AQ (Nat.le_refl _)))
 clear ho hb
 go_wp2
 go_ret
 exact⟨v,rfl,HO.out,hB⟩
def toldB (l:List UInt8):Bool:=decide (l.length=9)
def toldN (l:List UInt8):Nat:=if l.length=9 then nm (l,0) 8 else 0
def DL (l:List UInt8):Nat:=if l.length=9 then nm (q1 l) 1 else 0
theorem told_any (l:List UInt8) (A:Option Addr) (n cap:Nat) (w:World) (hr:RSl 1 RU8 w l (.slice A n cap)) (hl:l.length≤1000000) :
  Calls Tryz.prog 116 #[.slice A n cap] w fun e w'=>e=.returned (.tuple #[.int .u64 (toldN l),.int .i64 (DL l),.bool (toldB l)])∧Below w.heap.size w w':=by
 have HR:=Aa hr
 obtain⟨A',cap',hv,hcap,_⟩:=hr
 injection hv with e1 e2 e3
 subst e1 e2 e3
 by_cases h9:l.length=9
 ·have ha:toldN l=nm (l,0) 8:=by rw[toldN,if_pos h9]
  have hb:DL l=nm (q1 l) 1:=by rw[DL,if_pos h9]
  have hc:toldB l=true:=by rw[toldB,h9];rfl
  rw[ha,hb,hc]
  clear ha hb hc
  have hx:nm (q1 l) 1<256:=Fz (q1 l) 1 (by omega)
  have l1:(q1 l).1.length≤2147483648:=Nat.le_trans (B0 _ _) (by simp only;omega)
  have hd:(((l.length:Nat):Int) !=9)=false:=by rw[h9];rfl
  have H9:=Aa h9
  clear h9
  go_enter Tryz.func116,Tryz.ntmps116
  go_wp2_with fail
  refine (new_any _ _ _ _ l HR.out (by omega)).mono ?_
  rintro e w1 ⟨p,rfl,hc,hb⟩
  have HL1:=Aa l1
  clear l1
  go_wp2_with fail
  refine (Fg _ _ _ _ _ _ hc (show l.length≤2147483648 by omega)).mono ?_
  rintro e w2 ⟨he,hc2,hg2⟩
  obtain rfl:e=.returned (.int .u64 (nm (l,0) 8)):=he
  have hb2:=AT hb hg2 hc.1 hb.size
  clear hc hb hg2
  go_wp2_with fail
  refine (Fg _ _ _ _ _ _ hc2 HL1.out).mono ?_
  rintro e w3 ⟨he,hc3,hg3⟩
  obtain rfl:e=.returned (.int .u64 (nm (q1 l) 1)):=he
  have hb3:=AT hb2 hg3 hc2.1 hb2.size
  clear hc2 hb2 hg3 hc3
  have hwr:IntKind.i64.wrap ((nm (q1 l) 1:Nat):Int)=nm (q1 l) 1:=IntWalk.i64_in _ (by omega)
  go_wp2
  refine bodyPost_ret (v:=.tuple #[.int .u64 (nm (l,0) 8),.int .i64 (nm (q1 l) 1),.bool true]) (by simp[results,Tryz.results116,go_sem]) rfl ⟨rfl,hb3⟩
 ·have ha:toldN l=0:=by rw[toldN,if_neg h9]
  have hb:DL l=0:=by rw[DL,if_neg h9]
  have hc:toldB l=false:=by rw[toldB];exact decide_eq_false h9
  rw[ha,hb,hc]
  clear ha hb hc
  go_enter Tryz.func116,Tryz.ntmps116
  go_wp2
  refine bodyPost_ret (v:=.tuple #[.int .u64 0,.int .i64 0,.bool false]) (by simp[results,Tryz.results116,go_sem]) rfl ⟨rfl,Below.refl _ _⟩
def rpC (r:Rp):List Value:=[.int .i64 r.call,.int .u64 r.id,.int .i64 r.e]
theorem slRp:SlT Tryz.prog 53 70 (.agg #[.int .i64 0,.int .u64 0,.int .i64 0]) 3 24:=⟨Tryz.underlying53,by kernel_rfl,rfl,by omega⟩
section
variable {g:Nat→Nat} {w:World} {c:Nat} {X:CtX} {C:Ct (Nat×Nat)} {M:Nat→Prop} {cv:Value}
theorem Hb (h:Bg g w c X C) (id e:Nat) (hid:id<18446744073709551616) (he:e<256) (calls:List Int) (hv:AA M w 3 1 cv (calls.map Hu)) (hM:∀ k,M k→k<w.heap.size→g k≠6) (hl:calls.length≤1000) :
  Calls Tryz.prog 61 #[.pointer (some ⟨c,0,none⟩),.int .u64 id,.int .i64 e,cv] w fun en w'=>∃ v,en=.returned v∧AA (fun k=>w.heap.size≤k) w' 70 3 v ((C.answer id e calls).2.map rpC)∧Bj g w c X (Bn g w.heap.size 0) w' X (C.answer id e calls).1∧Fp (fun k=>tg g 6 k∧k<w.heap.size) w w':=by
 obtain⟨bs,hbs⟩:∃ bs,bs=Ez (ansL id e):=⟨_,rfl⟩
 have HAN:=Aa (fun W=>Hx id e W (by omega) he)
 rw[← hbs] at HAN
 have H0:=Aa h
 have HV:=Aa hv
 have HMM:=Aa hM
 have HE:=Aa (show C.answer id e calls=({ C with seen:=(C.seen.end_ id bs).1 },calls.map fun n=>⟨n,id,(e:Int)⟩) by rw[Ct.answer,hbs];rfl)
 have HC1:=Aa ((Le.refl w).drew.heap (show w.heap[c]?=some (.cells #[.int .i64 C.cf.shards,.int .i64 C.cf.intake,.int .i64 C.cf.window,.int .i64 C.cf.keep,.int .i64 C.s.mp,.int .i64 C.s.mt,.int .i64 C.s.ms,.int .i64 C.s.ml,.pointer (some ⟨X.ar,0,none⟩),.pointer (some ⟨X.pn,0,none⟩),.pointer (some ⟨X.bd,0,none⟩),.pointer (some ⟨X.iq,0,none⟩),.pointer (some ⟨X.sn,0,none⟩),.int .i64 C.s.mp,.int .i64 C.s.mt,.int .i64 C.s.ms,.int .i64 C.s.ml,X.pv,X.tv,X.sv,Cp X.tb,.int .u32 C.ever,.map (some X.sm),X.wv] 156 (0,0)) from h.hc))
 obtain⟨mp,ovv,hdd⟩:=h.sn
 have HDD:=Aa (hdd.mono (M':=fun k=>tg g 6 k∧k<w.heap.size) (fun k hk h=>⟨h,hk⟩))
 obtain⟨Ac,cc,hcv,_,_,_⟩:=hv.cells
 rw[List.length_map] at hcv
 obtain⟨R,hR⟩:∃ R:Ending→World→Prop,R=fun en w'=>∃ v,en=.returned v∧AA (fun k=>w.heap.size≤k) w' 70 3 v ((C.answer id e calls).2.map rpC)∧Bj g w c X (Bn g w.heap.size 0) w' X (C.answer id e calls).1∧Fp (fun k=>tg g 6 k∧k<w.heap.size) w w':=⟨_,rfl⟩
 rw[← hR]
 have HR:=Aa hR
 subst hcv
 clear hR h hv hM hdd hbs
 go_enter Tryz.func61,Tryz.ntmps61
 go_upto_region 1 with fail
 refine' AW 9 9 12 Le (IsD _::IsD _::IsD _::IsD _::IsD _::IsD _::IsD _::(fun _ v W=>RSl 1 RU8 W bs v)::IsD _::[]) ([]::[0]::[1]::[2]::[]::[]::[]::[5,6]::[7]::[]) (by kernel_rfl) (by kernel_rfl) (by rfl) (by kernel_rfl) (by kernel_rfl) Le.refl (fun _ _ _ h h'=>h.trans h') ⟨StD.is,StD.is,StD.is,StD.is,StD.is,StD.is,StD.is,(fun _ _ _ _ hb h=>hb.rsl BS h),StD.is,trivial⟩ ?m1
 case m1 =>
  simp (maxSteps:=100000000) only [AR,Hr,AU,AH,AE,B6,AD,Am,Au,List.set_cons_succ,List.set_cons_zero,List.map_cons,List.getElem?_cons_zero,List.getElem?_cons_succ,Option.getD_some,List.map_nil,List.take_succ_cons,List.take_zero,List.drop_succ_cons,List.drop_zero,List.cons_append,List.nil_append,List.length_cons,List.length_nil,Nat.reduceAdd]
  intro x0 x1 x2 x3 x4 x5 x6 x7 x8
  refine⟨⟨?_,?_,?_,?_,?_,?_,?_,?_,?_,trivial⟩,?_⟩
  ·intro wo hw KQ hK;go_simp;exact hK _ _ .r .m
  ·intro wo hw h0 KQ hK;cases h0;go_simp;exact hK _ _ .r .m
  ·intro wo hw h1 KQ hK;cases h1;go_simp;exact hK _ _ .r .m
  ·intro wo hw h2 KQ hK;cases h2;have kk:=Af (hw.heap HC1.out) 12 (.pointer (some ⟨X.sn,0,none⟩)) rfl wo (Le.refl _);go_simp;exact hK _ _ .r .m
  ·intro wo hw KQ hK;go_simp;exact hK _ _ .r .m
  ·intro wo hw KQ hK;go_simp;exact hK _ _ .r .m
  ·intro wo hw KQ hK;go_simp;exact hK _ _ .r .m
  ·intro wo hw h5 h6 KQ hK;cases h5;cases h6;go_simp;refine (HAN.out wo).mono ?_;rintro e' w' ⟨v,rfl,ho,hb⟩;exact hK _ _ (Le.mk hb) (DA ho)
  ·intro wo hw h7 KQ hK;obtain⟨A8,c8,hv8,hl8,hr8⟩:=h7;subst hv8;have hcv:=conv_str (P:=Tryz.prog) wo 25 9 5 A8 bs.length c8 bs Tryz.underlying25 Tryz.underlying5 Tryz.underlying9 ⟨A8,c8,rfl,hl8,hr8⟩;go_simp;exact hK _ _ .r .m
  ·intro wz hz h0 h1 h2 h3 h4 h5 h6 h7 h8;cases h0;cases h1;cases h2;cases h3;cases h4;cases h5;cases h6;cases h8;skip
   have HLZ:=Aa ((Le.refl w).drew.trans hz)
   clear hz HC1 h7 HAN
   go_wp2_with fail
   refine (ddEnd (HDD.out.le HLZ.out) id hid bs).mono ?_
   rintro en w3 ⟨rfl,hd3,hf3⟩
   have HD3:=Aa hd3
   have HF3:=Aa ((Fp.of_le HLZ.out).trans hf3)
   have HV3:=Aa (show AA M w3 3 1 (.slice Ac calls.length cc) (calls.map Hu) from ⟨Bp HV.out.own HF3.out (fun k hk e=>HMM.out k (HV.out.blk k hk) e.2 e.1),HV.out.blk,HV.out.len⟩)
   clear hd3 hf3
   go_wp2_with fail
   go_loopw [9,24] (fun z9 i wr=>∃ (k:Nat) (s9:Value),k≤calls.length∧i=.int .i64 k∧s9=z9∧Hd (AA (fun k=>w3.heap.size≤k) wr 70 3 s9 ((calls.take k).map fun n=>rpC ⟨n,id,(e:Int)⟩))∧Hd (Le w3 wr)) (fun _ i _=>calls.length - (intOf i).toNat)
   case atStart=>exact⟨0,_,Nat.zero_le _,rfl,rfl,Aa AA.nil,Aa (Le.refl _)⟩
   case round =>
    obtain⟨k,s9,hk,rfl,rfl,HO,HL⟩:=hrel
    rcases Nat.lt_or_ge k calls.length with hlt | hge
    ·have hltI:(k:Int)<(calls.length:Int):=by omega
     have e0:=List.getElem?_eq_getElem hlt
     have HTK:=Aa (show calls.take (k+1)=calls.take k++[calls[k]] by rw[List.take_succ_eq_append_getElem hlt])
     obtain⟨gr,hA,hrg⟩:=(HV3.out.le HL.out).elem (show (calls.map Hu)[k]?=some (Hu calls[k]) by rw[List.getElem?_map,e0];rfl)
     have kq:wr.cell? ⟨gr,k,none⟩=some (.int .i64 calls[k]):=by have:=hrg 0 _ (show (Hu calls[k])[0]?=some _ from rfl);simpa using this
     have q1:IntKind.i64.wrap ((k:Int)+1)=((k+1:Nat):Int):=by rw[IntWalk.i64_in _ (by omega)];simp
     clear e0 hrg
     rw[hA]
     generalize calls[k]=n at *
     go_wp2_with (refine Br (v:=s9) (u:=.slice (some ⟨wr.heap.size,0,none⟩) 1 1) (x:=rpC ⟨n,id,(e:Int)⟩) rfl slRp (.tmp 28) (.tmp 33) rfl HO.out ((Le.refl _).alloc _) rfl rfl (BsF.new (rpC ⟨n,id,(e:Int)⟩) _ (fun k hk=>HO.out.lt hk)) rfl (by simp[rpC,Value.oneCell']) (by rw[List.length_map,List.length_take];omega) (by omega) ?_;intro v' w' h1 h2;have HAP:=Aa h1;clear h1 h2)
     refine⟨⟨k+1,_,hlt,by simp,rfl,Aa ?_,Aa (Fp.le_new HL.out (HAP.out.fp HO.out) (fun k hk=>hk))⟩,by simp only[intOf];omega⟩
     rw[HTK.out,List.map_append]
     exact (HAP.out.ownR HO.out rfl).mono fun k _ hk=>hk.elim _root_.id fun hk=>Nat.le_trans HL.out.size hk
    ·have hgeI:¬ (k:Int)<(calls.length:Int):=by omega
     have HO9:=Aa (show AA (fun k=>w3.heap.size≤k) wr 70 3 s9 ((calls.map fun n=>(⟨n,id,(e:Int)⟩:Rp)).map rpC) from by have h9:=HO.out;rw[List.take_of_length_le hge] at h9;rw[List.map_map];exact h9)
     clear HO
     go_wp2_with fail
     rw[HR.out,HE.out]
     have hdw:Im (Bn g w.heap.size 0) w3 X.sn (C.seen.end_ id bs).1:=⟨mp,ovv,HD3.out.mono fun k _ e=>(Az k e.2).trans e.1⟩
     exact⟨_,rfl,HO9.out.mono fun k _ hk=>Nat.le_trans HF3.out.size hk,(H0.out.setSeen (HF3.out.mono fun k hk=>hk.1) (fun k hk=>hk) Az _ hdw).le HL.out,HF3.out.trans (Fp.of_le HL.out)⟩
end
end Go.Proofs.YtmcndlofaanjiaaGreat
