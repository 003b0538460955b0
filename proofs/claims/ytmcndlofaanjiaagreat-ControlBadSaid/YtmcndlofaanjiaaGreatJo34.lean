/- Texts of one claim, laid together: CtC CtD1 -/
import Derived.Test.YtmcndlofaanjiaaGreatJo33
import Derived.Test.YtmcndlofaanjiaaGreatJo27
import Derived.Test.YtmcndlofaanjiaaGreatJo16
import Derived.Test.YtmcndlofaanjiaaGreatJo22
/- control.Collect. (Written by gen_ctcl.py.) -/
namespace Go.Proofs.YtmcndlofaanjiaaGreat
open Go.RowKit
set_option linter.unusedVariables false
set_option maxRecDepth 100000
set_option maxHeartbeats 8000000
theorem En {β:Type} (a:Nat) (x:List Wt):∀ (l:List Wt) (c:Ct β),({ c with waits:=x }:Ct β).flush a l=c.flush a l
 | [],c=>rfl
 | p::l,c=>by
  have h:=En a x l (c.answer p.id 0 p.calls).1
  unfold Ct.flush
  by_cases hp:p.epoch≤a
  ·rw[if_pos hp,if_pos hp]
   have e:(({ c with waits:=x }:Ct β).answer p.id 0 p.calls)=({ (c.answer p.id 0 p.calls).1 with waits:=x },(c.answer p.id 0 p.calls).2):=rfl
   rw[e]
   dsimp only
   rw[h]
  ·rw[if_neg hp,if_neg hp]
theorem gNew_zero {g:Nat→Nat} {n m:Nat} (h:n≤m):Bn (Bn g n 0) m 0=Bn g n 0:=by
 funext k
 unfold Bn
 split<;>split<;>first | rfl | omega
theorem Id {b:Bd} {l:List Nat} (h:l=b.last):Iz l=b.acked:=by
 subst h
 unfold Iz Bd.acked
 rfl
section
variable {M:Nat→Prop} {w W:World} {T s:Nat} {v v':Value} {xs ys:List (List Value)} {x:List Value}
theorem AA.many (h:AA M w T s v xs) (h1:W.ownsRow 0 T s v' (xs.length+ys.length) (xs.flatten++ys.flatten)) (hb:v'.ownBlock=v.ownBlock∨v'.ownBlock=some w.heap.size) (hy:∀ y∈ys,y.length=s):AA (Gn M w) W T s v' (xs++ys):=by
 refine⟨by rw[List.length_append,List.flatten_append];exact h1,fun k hk=>?_,fun y hm=>?_⟩
 ·rcases hb with e | e
  ·exact .inl (h.blk k (by rw[← e];exact hk))
  ·rw[e] at hk;injection hk with hk;exact .inr (Nat.le_of_eq hk)
 ·rcases List.mem_append.1 hm with hm | hm
  ·exact h.len y hm
  ·exact hy y hm
theorem OwO.two {u:Value} (h:OwO M w T 1 v ([u]::xs)):∃ gb o cap,xs.length≤cap∧v=.slice (some ⟨gb,o,none⟩) (xs.length+1) (cap+1)∧w.cell? ⟨gb,o,none⟩=some u∧∀ v',(0<cap→v'=.slice (some ⟨gb,o+1,none⟩) xs.length cap)→(cap=0→∃ A,v'=.slice A 0 0)→OwO M w T 1 v' xs:=by
 obtain⟨gb,o,cap,hv,hc⟩:=h.at1 (by simp)
 have h0:=hc 0 [u] u rfl rfl
 rcases h.val with ⟨_,_,e⟩ | ⟨g',off',cap',cur,e,hg,r1,r2,r3,r4,r5⟩
 ·cases e
 ·rw[hv] at e
  injection e with e1 e2 e3
  subst e3
  obtain⟨cap1,rfl⟩:∃ n,cap=n+1:=⟨cap - 1,by omega⟩
  refine⟨gb,o,cap1,by simpa using r1,hv,h0,fun v' a b=>h.tail (g:=gb) (off:=o) (cap:=cap1) (cur:=cur) ?_ ?_ b (by omega)⟩
  ·rw[hv,Nat.mul_one];rfl
  ·rw[Nat.mul_one];exact a
end
section
variable {g g':Nat→Nat} {w w' w'':World} {c:Nat} {X X':CtX} {C C':Ct (Nat×Nat)}
theorem Bj.mv0 {S:Nat→Prop} (h:Bj g w c X g' w' X' C') (hf:Fp S w' w'') (hs:∀ k,S k→g' k=0∧w.heap.size≤k):Bj g w c X g' w'' X' C' :=
 ⟨h.at_.mv hf (fun k hk=>(hs k hk).1) (fun _ _=>rfl),h.re,h.ar,h.pn,h.bd,⟨hf.os.trans h.fp.os,hf.tape.trans h.fp.tape,hf.output.trans h.fp.output,Nat.le_trans h.fp.size hf.size,fun k hk hn=>(hf.block k (Nat.lt_of_lt_of_le hk h.fp.size) (fun e=>by have:=(hs k e).2;omega)).trans (h.fp.block k hk hn)⟩⟩
def wlen (w:World) (c:Nat):Nat:=match w.cell? ⟨c,23,none⟩ with | some (.slice _ n _)=>n | _=>0
theorem wlen_eq (h:Bg g w c X C):wlen w c=C.waits.length:=by
 obtain⟨ws,hws⟩:=h.wt
 obtain⟨A,cap,hv⟩:=hws.row.slice
 have k:w.cell? ⟨c,23,none⟩=some X.wv:=Ae h.hc 23
 unfold wlen
 rw[k,hv]
 simp only[List.length_map]
 exact hws.pd.len
theorem ctBoard (h:Bg g w c X C):Calls Tryz.prog 66 #[.pointer (some ⟨X.bd,0,none⟩)] w fun e w'=>(∃ v,e=.returned v)∧Bj g w c X (Bn g w.heap.size 0) w' X { C with board:=C.board.collect }:=by
 obtain⟨d,hd,hr⟩:=h.bd
 refine (bdCollect (hd.mono (M':=fun k=>tg g 4 k∧k<w.heap.size) fun k hk h=>⟨h,hk⟩)).mono ?_
 rintro e w' hb
 cases ha:d.acks with
 | nil =>
  obtain⟨rfl,hl⟩:=hb.emp ha
  have e1:C.board.collect=C.board:=by unfold Bd.collect;rw[← hr.acks,ha]
  rw[e1]
  exact⟨⟨_,rfl⟩,h.re 0 hl⟩
 | cons x l =>
  obtain⟨k,ep⟩:=x
  obtain⟨rfl,hb2,hf⟩:=hb.one k ep l ha
  have e1:C.board.collect=⟨C.board.room,C.board.q,l,C.board.last.set k ep⟩:=by unfold Bd.collect;rw[← hr.acks,ha]
  rw[e1]
  refine⟨⟨_,rfl⟩,h.setBoard (hf.mono fun k hk=>hk.1) (fun k hk=>hk) Az _ ⟨_,hb2.mono fun k _ e=>(Az k e.2).trans e.1,⟨hr.room,rfl,?_,(hr.mv hf (fun k hk=>by rw[hk.1];decide) Az).qs⟩⟩⟩
  show (d.lasts.set k ep)=C.board.last.set k ep
  rw[hr.lasts]
theorem ctCut {G:Nat→Nat} {X1:CtX} {C1:Ct (Nat×Nat)} {wr wz w5:World} {p:Wt} {l:List Wt} {xp:Nat} {cv:Value} {ws':List (Nat×Value)} {gb o cap:Nat} {vT:Value} (HC:Bj g w c X G wr X1 C1) (hwt:C1.waits=p::l)
  (HTL:∀ v',(0<cap→v'=.slice (some ⟨gb,o+1,none⟩) (ws'.map fun x=>pV x.1).length cap)→(cap=0→∃ A,v'=.slice A 0 0)→OwO (tg G 10) wr 170 1 v' (ws'.map fun x=>pV x.1)) (HWS:Cu G wr X1.wv ((xp,cv)::ws') (p::l)) (HL:Le wr wz) (hg5:wz.grownBy w5 (some c))
  (h5:w5.heap[c]?=some (.cells (ctC C1.cf C1.s { X1 with wv:=vT } C1.ever).toArray 156 (0,0))) (h1:0<cap→vT=.slice (some ⟨gb,o+1,none⟩) l.length cap) (h0:cap=0→∃ A,vT=.slice A 0 0) :
  ∃ (X2:CtX) (C2 C3:Ct (Nat×Nat)) (rs2:List Rp),C2.answer p.id 0 p.calls=(C3,rs2)∧C3.waits=l∧C3.board=C1.board∧rs2.length=p.calls.length∧(∀ a,p.epoch≤a→C1.flush a (p::l)=((C3.flush a l).1,rs2++(C3.flush a l).2)) ∧
   Bj g w c X G w5 X2 C2∧w5.heap[xp]?=some (.cells #[.int .u64 p.id,.int .u64 p.epoch,cv] 172 (0,0))∧AA (fun k=>G k=10) w5 3 1 cv (p.calls.map Hu)∧Fp (fun k=>k=c) wr w5:=by
 have hf:Fp (fun k=>k=c) wr w5:=(Fp.of_le HL).trans (Fp.of_grown hg5 rfl)
 have hgc:=HC.at_.gc
 have hpd:=HWS.pd.head
 have hlen:(ws'.map fun x=>pV x.1).length=l.length:=by rw[List.length_map];exact HWS.pd.tail.len
 have hnk:∀ i,i≠1→∀ k,k=c→G k≠i:=fun i hi k hk e=>hi (by rw[hk,hgc] at e;exact e.symm)
 have hp2:=hpd.mv hf (hnk 10 (by decide)) (fun _ _=>rfl)
 have hrow:=(HTL vT (by rw[hlen];exact h1) h0).fp hf (fun k hk e=>hnk 10 (by decide) k hk e)
 have hset:=HC.at_.setBlock (g':=G) hf (fun k hk=>by rw[hk];exact hgc) (fun _ _=>rfl) { C1 with waits:=l } { X1 with wv:=vT } ⟨rfl,rfl,rfl,rfl,rfl,rfl⟩ ⟨rfl,rfl,rfl,rfl,rfl,rfl,rfl⟩ h5
  (HC.at_.st.mv hf (hnk 7 (by decide)) (fun _ _=>rfl)) (HC.at_.tb.mv hf (hnk 8 (by decide)) (fun _ _=>rfl)) ⟨ws',hrow,HWS.pd.tail.imp fun x y _ _ h=>h.mv hf (hnk 10 (by decide)) (fun _ _=>rfl),(List.nodup_cons.1 (show (xp::ws'.map (·.1)).Nodup from HWS.np)).2,(List.pairwise_cons.1 HWS.nc).2⟩
 refine⟨{ X1 with wv:=vT },{ C1 with waits:=l },_,_,rfl,rfl,rfl,List.length_map ..,fun a ha=>?_,HC.trans hset,hp2.1,hp2.2.2,hf⟩
 have e:=En a l l (C1.answer p.id 0 p.calls).1
 rw[Ct.flush,if_pos ha,← e]
 rfl
def CollP (g:Nat→Nat) (w:World) (c:Nat) (X:CtX) (r:Ct (Nat×Nat)×List Rp) (en:Ending) (w':World):Prop :=
 ∃ v X',en=.returned v∧AA (fun k=>w.heap.size≤k) w' 70 3 v (r.2.map rpC)∧Bj g w c X (Bn g w.heap.size 0) w' X' r.1
theorem ctCollect (h:Bg g w c X C) (hw:C.waits.length≤1000) (hcl:∀ wt∈C.waits,wt.id<18446744073709551616∧wt.calls.length≤1000):Calls Tryz.prog 19 #[.pointer (some ⟨c,0,none⟩)] w (CollP g w c X C.collect):=by
 have HB0:=Aa (ctBoard h)
 have k10:w.cell? ⟨c,10,none⟩=some (.pointer (some ⟨X.bd,0,none⟩)):=Ae h.hc 10
 obtain⟨R,hR⟩:∃ R,R=CollP g w c X C.collect:=⟨_,rfl⟩
 rw[← hR]
 have HR:=Aa hR
 have HGN:=Aa (fun m (hm:w.heap.size≤m)=>gNew_zero (g:=g) hm)
 have HGH:=Aa (fun k (hk:w.heap.size≤k)=>AM (g:=g) (i:=0) hk)
 have HCL:=Aa hcl
 clear hR h hcl
 generalize hG:Bn g w.heap.size 0=G at HB0 HGN HGH
 have HG:=Aa hG
 clear hG
 go_enter Tryz.func19,Tryz.ntmps19
 go_wp2_with fail
 refine HB0.out.mono ?_
 rintro e w2 ⟨⟨vb,rfl⟩,hc2⟩
 have HC2:=Aa hc2
 clear hc2 k10 HB0
 go_wp2_with fail
 go_loopw [3] (fun z3 wr=>∃ (s3:Value) (C1:Ct (Nat×Nat)) (X1:CtX) (rs:List Rp),s3=z3∧Hd (C.collect=((C1.flush C1.board.acked C1.waits).1,rs++(C1.flush C1.board.acked C1.waits).2))∧Hd (Bj g w c X G wr X1 C1)∧Hd (AA (fun k=>w.heap.size≤k) wr 70 3 s3 (rs.map rpC))∧Hd (rs.length+1000*C1.waits.length≤1000000∧∀ wt∈C1.waits,wt.id<18446744073709551616∧wt.calls.length≤1000)) (fun _ wr=>wlen wr c)
 case atStart=>exact⟨_,{ C with board:=C.board.collect },X,[],rfl,Aa (by rw[List.nil_append];rfl),HC2,Aa AA.nil,Aa ⟨by show 0+1000*C.waits.length≤_;omega,HCL.out⟩⟩
 case round =>
  obtain⟨s3,C1,X1,rs,rfl,HE,HC,HO,HB⟩:=hrel
  have HWL:=Aa (wlen_eq HC.out.at_)
  obtain⟨ws,hws⟩:=HC.out.at_.wt
  obtain⟨d,hd,hdr⟩:=HC.out.at_.bd
  have HBD:=Aa hd
  have HAK:=Aa (Id hdr.lasts)
  clear hd hdr
  cases hwt:C1.waits with
  | nil =>
   obtain⟨A0,c0,hv0⟩:=hws.row.slice
   rw[List.length_map,hws.pd.len,hwt] at hv0
   have HCC:=Aa (show wr.drew.heap[c]?=some (.cells #[.int .i64 C1.cf.shards,.int .i64 C1.cf.intake,.int .i64 C1.cf.window,.int .i64 C1.cf.keep,.int .i64 C1.s.mp,.int .i64 C1.s.mt,.int .i64 C1.s.ms,.int .i64 C1.s.ml,.pointer (some ⟨X1.ar,0,none⟩),.pointer (some ⟨X1.pn,0,none⟩),.pointer (some ⟨X1.bd,0,none⟩),.pointer (some ⟨X1.iq,0,none⟩),.pointer (some ⟨X1.sn,0,none⟩),.int .i64 C1.s.mp,.int .i64 C1.s.mt,.int .i64 C1.s.ms,.int .i64 C1.s.ml,X1.pv,X1.tv,X1.sv,Cp X1.tb,.int .u32 C1.ever,.map (some X1.sm),.slice A0 0 c0] 156 (0,0)) from (Le.refl wr).drew.heap (by rw[← show X1.wv=Value.slice A0 0 c0 from hv0];exact HC.out.at_.hc))
   have HW:=Aa hwt
   clear hv0 hws hwt
   go_upto_region 5 with fail
   refine' Bi 23 12 Le (Is _::Is _::Is _::Is _::Is _::Is _::Is _::Is _::Is _::Is _::Is _::Is _::Is _::Is _::Is _::Is _::Is _::Is _::Is _::Is _::Is _::Is _::Is _::[]) ([]::[0]::[1]::[2]::[3]::[4]::[5]::[6]::[6,7]::[6,8]::[6,9]::[6,10]::[6,11]::[6,12]::[6,13]::[6,14]::[6]::[6,16]::[6,17]::[6,18]::[6,19]::[6,15,20]::[6,21]::[]) (by kernel_rfl) (by kernel_rfl) (by rfl) (by kernel_rfl) Le.refl (fun _ _ _ h h'=>h.trans h') ⟨St.is,St.is,St.is,St.is,St.is,St.is,St.is,St.is,St.is,St.is,St.is,St.is,St.is,St.is,St.is,St.is,St.is,St.is,St.is,St.is,St.is,St.is,St.is,trivial⟩ ?m5
   case m5 =>
    simp (maxSteps:=100000000) only [AR,Bv,AK,AC,An,AD,Am,Au,List.set_cons_succ,List.set_cons_zero,List.getElem?_cons_zero,List.getElem?_cons_succ,List.take_succ_cons,List.take_zero,List.drop_succ_cons,List.drop_zero,List.cons_append,List.nil_append,List.length_cons,List.length_nil,Nat.reduceAdd]
    intro x0 x1 x2 x3 x4 x5 x6 x7 x8 x9 x10 x11 x12 x13 x14 x15 x16 x17 x18 x19 x20 x21 x22
    refine⟨⟨?_,?_,?_,?_,?_,?_,?_,?_,?_,?_,?_,?_,?_,?_,?_,?_,?_,?_,?_,?_,?_,?_,?_,trivial⟩,?_⟩
    ·intro wo hw KQ hK;go_simp;exact hK _ _ .r .m
    ·intro wo hw h0 KQ hK;cases h0;go_simp;exact hK _ _ .r .m
    ·intro wo hw h1 KQ hK;cases h1;go_simp;exact hK _ _ .r .m
    ·intro wo hw h2 KQ hK;cases h2;have kk:=Af (hw.heap HCC.out) 23 (.slice A0 0 c0) rfl wo (Le.refl _);go_simp;exact hK _ _ .r .m
    ·intro wo hw h3 KQ hK;cases h3;go_simp;exact hK _ _ .r .m
    ·intro wo hw h4 KQ hK;cases h4;go_simp;exact hK _ _ .r .m
    ·intro wo hw h5 KQ hK;cases h5;go_simp;exact hK _ _ .r .m
    ·intro wo hw h6 KQ hK;cases h6;go_simp;exact hK _ _ .r .m
    ·intro wo hw h6 h7 KQ hK;cases h6;cases h7;go_simp;exact hK _ _ .r .m
    ·intro wo hw h6 h8 KQ hK;cases h6;cases h8;go_simp;exact hK _ _ .r .m
    ·intro wo hw h6 h9 KQ hK;cases h6;cases h9;go_simp;exact hK _ _ .r .m
    ·intro wo hw h6 h10 KQ hK;cases h6;cases h10;go_simp;exact hK _ _ .r .m
    ·intro wo hw h6 h11 KQ hK;cases h6;cases h11;go_simp;exact hK _ _ .r .m
    ·intro wo hw h6 h12 KQ hK;cases h6;cases h12;go_simp;exact hK _ _ .r .m
    ·intro wo hw h6 h13 KQ hK;cases h6;cases h13;go_simp;exact hK _ _ .r .m
    ·intro wo hw h6 h14 KQ hK;cases h6;cases h14;go_simp;exact hK _ _ .r .m
    ·intro wo hw h6 KQ hK;cases h6;go_simp;exact hK _ _ .r .m
    ·intro wo hw h6 h16 KQ hK;cases h6;cases h16;go_simp;exact hK _ _ .r .m
    ·intro wo hw h6 h17 KQ hK;cases h6;cases h17;go_simp;exact hK _ _ .r .m
    ·intro wo hw h6 h18 KQ hK;cases h6;cases h18;go_simp;exact hK _ _ .r .m
    ·intro wo hw h6 h19 KQ hK;cases h6;cases h19;go_simp;exact hK _ _ .r .m
    ·intro wo hw h6 h15 h20 KQ hK;cases h6;cases h15;cases h20;go_simp;exact hK _ _ .r .m
    ·intro wo hw h6 h21 KQ hK;cases h6;cases h21;go_simp;exact hK _ _ .r .m
    ·intro wz hz h0 h1 h2 h3 h4 h5 h6 h7 h8 h9 h10 h11 h12 h13 h14 h15 h16 h17 h18 h19 h20 h21 h22;cases h0;cases h1;cases h2;cases h3;cases h4;cases h5;cases h6;cases h7;cases h8;cases h9;cases h10;cases h11;cases h12;cases h13;cases h14;cases h15;cases h16;cases h17;cases h18;cases h19;cases h20;cases h21;cases h22;skip
     go_wp2_with fail
     rw[HR.out,HE.out,HW.out]
     have HL9:=Aa ((Le.refl wr).drew.trans hz)
     refine⟨_,X1,rfl,by rw[show (C1.flush C1.board.acked []).2=[] from rfl,List.append_nil];exact HO.out.le HL9.out,?_⟩
     rw[HG.out,show (C1.flush C1.board.acked []).1=C1 by show ({ C1 with waits:=[] }:Ct (Nat×Nat))=C1;rw[← HW.out]]
     exact HC.out.le HL9.out
  | cons p l =>
   rw[hwt] at hws
   obtain⟨x,ws',rfl,hpd,hpt⟩:=hws.pd.two
   obtain⟨xp,cv⟩:=x
   obtain⟨gb,o,cap,hcap,hv0,hkc,htl⟩:=hws.row.two
   rw[List.length_map,hpt.len] at hv0 hcap
   have HLZ:=Aa (fun (h:cap=0)=>show l.length=0 by omega)
   obtain⟨Ac,cc,hcv,_,_,_⟩:=hpd.2.2.cells
   rw[List.length_map] at hcv
   dsimp only at hcv
   subst hcv
   have HKC:=Aa ((Le.refl wr).drew.cell hkc)
   have HPP:=Aa (show wr.drew.heap[xp]?=some (.cells #[.int .u64 p.id,.int .u64 p.epoch,.slice Ac p.calls.length cc] 172 (0,0)) from (Le.refl wr).drew.heap hpd.1)
   have HPD:=Aa hpd
   have HPT:=Aa hpt
   have HTL:=Aa htl
   have HWS:=Aa hws
   have HCC:=Aa (show wr.drew.heap[c]?=some (.cells #[.int .i64 C1.cf.shards,.int .i64 C1.cf.intake,.int .i64 C1.cf.window,.int .i64 C1.cf.keep,.int .i64 C1.s.mp,.int .i64 C1.s.mt,.int .i64 C1.s.ms,.int .i64 C1.s.ml,.pointer (some ⟨X1.ar,0,none⟩),.pointer (some ⟨X1.pn,0,none⟩),.pointer (some ⟨X1.bd,0,none⟩),.pointer (some ⟨X1.iq,0,none⟩),.pointer (some ⟨X1.sn,0,none⟩),.int .i64 C1.s.mp,.int .i64 C1.s.mt,.int .i64 C1.s.ms,.int .i64 C1.s.ml,X1.pv,X1.tv,X1.sv,Cp X1.tb,.int .u32 C1.ever,.map (some X1.sm),.slice (some ⟨gb,o,none⟩) (l.length+1) (cap+1)] 156 (0,0)) from (Le.refl wr).drew.heap (by rw[← hv0];exact HC.out.at_.hc))
   have HW:=Aa hwt
   have HPB:=Aa (HB.out.2 p (by rw[hwt];exact List.mem_cons_self ..))
   have HV0:=Aa hv0
   have hlI:(0:Int)<((l.length+1:Nat):Int):=by omega
   have hlen1:((l.length+1:Nat):Int)≤1000:=by have:=HB.out.1;rw[hwt] at this;simp only[List.length_cons] at this;omega
   clear hv0 hws hwt hpd hpt htl hkc
   by_cases hle:p.epoch≤C1.board.acked
   ·have hleI:(p.epoch:Int)≤((Iz d.lasts:Nat):Int):=by rw[HAK.out];omega
    have HLE:=Aa hle
    clear hle
    go_upto_region 5 with fail
    refine' Bi 23 12 Le (Is _::Is _::Is _::Is _::Is _::Is _::Is _::Is _::Is _::Is _::Is _::Is _::Is _::Is _::Is _::Is _::Is _::Is _::Is _::Is _::Is _::Is _::Is _::[]) ([]::[0]::[1]::[2]::[3]::[4]::[5]::[6]::[6,7]::[6,8]::[6,9]::[6,10]::[6,11]::[6,12]::[6,13]::[6,14]::[6]::[6,16]::[6,17]::[6,18]::[6,19]::[6,15,20]::[6,21]::[]) (by kernel_rfl) (by kernel_rfl) (by rfl) (by kernel_rfl) Le.refl (fun _ _ _ h h'=>h.trans h') ⟨St.is,St.is,St.is,St.is,St.is,St.is,St.is,St.is,St.is,St.is,St.is,St.is,St.is,St.is,St.is,St.is,St.is,St.is,St.is,St.is,St.is,St.is,St.is,trivial⟩ ?m5
    case m5 =>
     simp (maxSteps:=100000000) only [AR,Bv,AK,AC,An,AD,Am,Au,List.set_cons_succ,List.set_cons_zero,List.getElem?_cons_zero,List.getElem?_cons_succ,List.take_succ_cons,List.take_zero,List.drop_succ_cons,List.drop_zero,List.cons_append,List.nil_append,List.length_cons,List.length_nil,Nat.reduceAdd]
     intro x0 x1 x2 x3 x4 x5 x6 x7 x8 x9 x10 x11 x12 x13 x14 x15 x16 x17 x18 x19 x20 x21 x22
     refine⟨⟨?_,?_,?_,?_,?_,?_,?_,?_,?_,?_,?_,?_,?_,?_,?_,?_,?_,?_,?_,?_,?_,?_,?_,trivial⟩,?_⟩
     ·intro wo hw KQ hK;go_simp;exact hK _ _ .r .m
     ·intro wo hw h0 KQ hK;cases h0;go_simp;exact hK _ _ .r .m
     ·intro wo hw h1 KQ hK;cases h1;go_simp;exact hK _ _ .r .m
     ·intro wo hw h2 KQ hK;cases h2;have kk:=Af (hw.heap HCC.out) 23 (.slice (some ⟨gb,o,none⟩) (l.length+1) (cap+1)) rfl wo (Le.refl _);go_simp;exact hK _ _ .r .m
     ·intro wo hw h3 KQ hK;cases h3;go_simp;exact hK _ _ .r .m
     ·intro wo hw h4 KQ hK;cases h4;go_simp;exact hK _ _ .r .m
     ·intro wo hw h5 KQ hK;cases h5;go_simp;exact hK _ _ .r .m
     ·intro wo hw h6 KQ hK;cases h6;go_simp;exact hK _ _ .r .m
     ·intro wo hw h6 h7 KQ hK;cases h6;cases h7;go_simp;exact hK _ _ .r .m
     ·intro wo hw h6 h8 KQ hK;cases h6;cases h8;go_simp;exact hK _ _ .r .m
     ·intro wo hw h6 h9 KQ hK;cases h6;cases h9;have kk:=Af (hw.heap HCC.out) 23 (.slice (some ⟨gb,o,none⟩) (l.length+1) (cap+1)) rfl wo (Le.refl _);go_simp;exact hK _ _ .r .m
     ·intro wo hw h6 h10 KQ hK;cases h6;cases h10;go_simp;exact hK _ _ .r .m
     ·intro wo hw h6 h11 KQ hK;cases h6;cases h11;have kk:=hw.cell HKC.out;go_simp;exact hK _ _ .r .m
     ·intro wo hw h6 h12 KQ hK;cases h6;cases h12;go_simp;exact hK _ _ .r .m
     ·intro wo hw h6 h13 KQ hK;cases h6;cases h13;go_simp;exact hK _ _ .r .m
     ·intro wo hw h6 h14 KQ hK;cases h6;cases h14;have kk:=Af (hw.heap HPP.out) 1 (.int .u64 p.epoch) rfl wo (Le.refl _);go_simp;exact hK _ _ .r .m
     ·intro wo hw h6 KQ hK;cases h6;go_simp;exact hK _ _ .r .m
     ·intro wo hw h6 h16 KQ hK;cases h6;cases h16;go_simp;exact hK _ _ .r .m
     ·intro wo hw h6 h17 KQ hK;cases h6;cases h17;go_simp;exact hK _ _ .r .m
     ·intro wo hw h6 h18 KQ hK;cases h6;cases h18;have kk:=Af (hw.heap HCC.out) 10 (.pointer (some ⟨X1.bd,0,none⟩)) rfl wo (Le.refl _);go_simp;exact hK _ _ .r .m
     ·intro wo hw h6 h19 KQ hK;cases h6;cases h19;go_simp;refine (bdAcked (HBD.out.le ((Le.refl wr).drew.trans hw))).mono ?_;rintro e w' ⟨rfl,hb⟩;exact hK _ _ (Le.mk hb) (Is.mk _ _)
     ·intro wo hw h6 h15 h20 KQ hK;cases h6;cases h15;cases h20;go_simp;exact hK _ _ .r .m
     ·intro wo hw h6 h21 KQ hK;cases h6;cases h21;go_simp;exact hK _ _ .r .m
     ·intro wz hz h0 h1 h2 h3 h4 h5 h6 h7 h8 h9 h10 h11 h12 h13 h14 h15 h16 h17 h18 h19 h20 h21 h22;cases h0;cases h1;cases h2;cases h3;cases h4;cases h5;cases h6;cases h7;cases h8;cases h9;cases h10;cases h11;cases h12;cases h13;cases h14;cases h15;cases h16;cases h17;cases h18;cases h19;cases h20;cases h21;cases h22;skip
      have HL9:=Aa ((Le.refl wr).drew.trans hz)
      have kW:=hz.cell HKC.out
      have HC7:=Aa (hz.heap HCC.out)
      have k23:=Af HC7.out 23 (.slice (some ⟨gb,o,none⟩) (l.length+1) (cap+1)) rfl wz (Le.refl _)
      clear hz HKC HPP HCC
      clear k23
      have HC7b:=HC7
      have k23:=Af HC7.out 23 (.slice (some ⟨gb,o,none⟩) (l.length+1) (cap+1)) rfl wz (Le.refl _)
      rcases Nat.eq_zero_or_pos cap with hc0 | hc0
      all_goals
       go_upto_region 8 with (first | (refine Ao rfl 154 (.tmp 48) (.tmp 46) rfl [.int .i64 C1.cf.shards,.int .i64 C1.cf.intake,.int .i64 C1.cf.window,.int .i64 C1.cf.keep,.int .i64 C1.s.mp,.int .i64 C1.s.mt,.int .i64 C1.s.ms,.int .i64 C1.s.ml,.pointer (some ⟨X1.ar,0,none⟩),.pointer (some ⟨X1.pn,0,none⟩),.pointer (some ⟨X1.bd,0,none⟩),.pointer (some ⟨X1.iq,0,none⟩),.pointer (some ⟨X1.sn,0,none⟩),.int .i64 C1.s.mp,.int .i64 C1.s.mt,.int .i64 C1.s.ms,.int .i64 C1.s.ml,X1.pv,X1.tv,X1.sv,Cp X1.tb,.int .u32 C1.ever,.map (some X1.sm)] (v:=.slice (some ⟨gb,o,none⟩) l.length 0) (old:=.slice (some ⟨gb,o,none⟩) (l.length+1) (cap+1)) (post:=[]) rfl rfl (by kernel_rfl) rfl HC7.out ?_;intro w5 h5 hg5;have HCT0:=Aa (ctCut (vT:=.slice (some ⟨gb,o,none⟩) l.length 0) HC.out HW.out HTL.out HWS.out HL9.out hg5 h5 (by first | exact fun h=>absurd h (by omega) | exact fun _=>rfl) (by first | exact fun h=>absurd h (by omega) | (intro _;have hl0:l.length=0:=HLZ.out (by omega);rw[hl0];exact⟨_,rfl⟩)));clear h5 hg5 k23 hc0) | (refine Ao rfl 154 (.tmp 48) (.tmp 46) rfl [.int .i64 C1.cf.shards,.int .i64 C1.cf.intake,.int .i64 C1.cf.window,.int .i64 C1.cf.keep,.int .i64 C1.s.mp,.int .i64 C1.s.mt,.int .i64 C1.s.ms,.int .i64 C1.s.ml,.pointer (some ⟨X1.ar,0,none⟩),.pointer (some ⟨X1.pn,0,none⟩),.pointer (some ⟨X1.bd,0,none⟩),.pointer (some ⟨X1.iq,0,none⟩),.pointer (some ⟨X1.sn,0,none⟩),.int .i64 C1.s.mp,.int .i64 C1.s.mt,.int .i64 C1.s.ms,.int .i64 C1.s.ml,X1.pv,X1.tv,X1.sv,Cp X1.tb,.int .u32 C1.ever,.map (some X1.sm)] (v:=.slice (some ⟨gb,o+1,none⟩) l.length cap) (old:=.slice (some ⟨gb,o,none⟩) (l.length+1) (cap+1)) (post:=[]) rfl rfl (by kernel_rfl) rfl HC7.out ?_;intro w5 h5 hg5;have HCT0:=Aa (ctCut (vT:=.slice (some ⟨gb,o+1,none⟩) l.length cap) HC.out HW.out HTL.out HWS.out HL9.out hg5 h5 (by first | exact fun h=>absurd h (by omega) | exact fun _=>rfl) (by first | exact fun h=>absurd h (by omega) | (intro _;have hl0:l.length=0:=HLZ.out (by omega);rw[hl0];exact⟨_,rfl⟩)));clear h5 hg5 k23 hc0))
       obtain⟨X2,C2,C3,rs2,hA,hw3,hb3,hl3,hfl,hc5,hp5,hv5,hf5⟩:=HCT0.out
       have HC5:=Aa hc5
       have HP8:=Aa ((Le.refl w5).drew.heap hp5)
       have HNP:=Aa (show ¬ G xp=6 by rw[HPD.out.2.1];decide)
       have HV5:=Aa hv5
       have HO5:=Aa (HO.out.fp hf5 (fun k hk e=>by rw[hk] at e;have:=Ah (hk▸hc5.at_.hc);have h1:=HC.out.at_.gc;rw[HGH.out c e] at h1;cases h1))
       have HA:=Aa hA
       have HX:=Aa (show C3.waits=l∧C3.board=C1.board∧rs2.length=p.calls.length∧(∀ a,p.epoch≤a→C1.flush a (p::l)=((C3.flush a l).1,rs2++(C3.flush a l).2)) from ⟨hw3,hb3,hl3,hfl⟩)
       clear HCT0 hA hw3 hb3 hl3 hfl hc5 hp5 hv5 hf5
       simp only[Act.put]
       refine' AB 10 11 11 49 Le (Fp (fun k=>G k=6)) (IsD _::IsD _::IsD _::IsD _::IsD _::IsD _::IsD _::IsD _::IsD _::IsD _::(fun _ v W=>AA (fun k=>w5.heap.size≤k) W 70 3 v (rs2.map rpC)∧Bj G w5 c X2 G W X2 C3)::[]) ([]::[]::[]::[2]::[3]::[4]::[]::[6]::[7]::[8]::[1,5,9]::[]) (by kernel_rfl) (by kernel_rfl) (by rfl) (by kernel_rfl) (by kernel_rfl) Le.refl (fun _ _ _ h h'=>h.trans h') (fun _ _ _ h h'=>h.trans h') (fun _ _ h=>Fp.of_le h) ⟨StQ.is,StQ.is,StQ.is,StQ.is,StQ.is,StQ.is,StQ.is,StQ.is,StQ.is,StQ.is,(fun _ _ _ _ hl h=>⟨h.1.le hl,h.2.le hl⟩),trivial⟩ ?m8
       case m8 =>
        simp (maxSteps:=100000000) only [AR,DU,Nat.reduceBEq,cond_true,cond_false,AU,AH,AE,B6,AD,Am,Au,List.set_cons_succ,List.set_cons_zero,List.map_cons,List.getElem?_cons_zero,List.getElem?_cons_succ,Option.getD_some,List.map_nil,List.take_succ_cons,List.take_zero,List.drop_succ_cons,List.drop_zero,List.cons_append,List.nil_append,List.length_cons,List.length_nil,Nat.reduceAdd]
        intro x0 x1 x2 x3 x4 x5 x6 x7 x8 x9 x10
        refine⟨⟨?_,?_,?_,?_,?_,?_,?_,?_,?_,?_,?_,trivial⟩,?_⟩
        ·intro wo hw KQ hK;go_simp;exact hK _ _ .r .m
        ·intro wo hw KQ hK;go_simp;exact hK _ _ .r .m
        ·intro wo hw KQ hK;go_simp;exact hK _ _ .r .m
        ·intro wo hw h2 KQ hK;cases h2;go_simp;exact hK _ _ .r .m
        ·intro wo hw h3 KQ hK;cases h3;go_simp;exact hK _ _ .r .m
        ·intro wo hw h4 KQ hK;cases h4;have kk:=Af (hw.heap HP8.out HNP.out) 0 (.int .u64 p.id) rfl wo (Le.refl _);go_simp;exact hK _ _ .r .m
        ·intro wo hw KQ hK;go_simp;exact hK _ _ .r .m
        ·intro wo hw h6 KQ hK;cases h6;go_simp;exact hK _ _ .r .m
        ·intro wo hw h7 KQ hK;cases h7;go_simp;exact hK _ _ .r .m
        ·intro wo hw h8 KQ hK;cases h8;have kk:=Af (hw.heap HP8.out HNP.out) 2 (.slice Ac p.calls.length cc) rfl wo (Le.refl _);go_simp;exact hK _ _ .r .m
        ·intro wo hw h1 h5 h9 KQ hK;cases h1;cases h5;cases h9;go_simp;refine (Hb (M:=fun k=>G k=10) (HC5.out.at_.le ((Le.refl w5).drew.trans hw)) p.id 0 HPB.out.1 (by omega) p.calls (HV5.out.le ((Le.refl w5).drew.trans hw)) (fun k hk _=>by rw[hk];decide) HPB.out.2).mono ?_;rintro e w' ⟨v,rfl,ho,hc,hf⟩;have HA9:C2.answer p.id ((0:Nat):Int) p.calls=(C3,rs2):=HA.out;rw[HA9] at ho hc;rw[HGN.out _ (Nat.le_trans HC5.out.fp.size ((Le.refl w5).drew.trans hw).size)] at hc;exact hK _ _ (hf.mono fun k hk=>hk.1) ⟨ho.mono fun k _ hk=>Nat.le_trans ((Le.refl w5).drew.trans hw).size hk,Bj.pre ((Le.refl w5).drew.trans hw) hc⟩
        ·intro wz hz h0 h1 h2 h3 h4 h5 h6 h7 h8 h9 h10;cases h0;cases h1;cases h2;cases h3;cases h4;cases h5;cases h6;cases h7;cases h8;cases h9;obtain⟨HRP,HCT⟩:=h10;skip
         have HL8:=hz
         have HO8:=Aa (HO5.out.fp ((Fp.of_le (Le.refl w5).drew).trans hz) (fun k hk e=>by rw[HGH.out k e] at hk;cases hk))
         obtain⟨A9,c9,hv9,hcl9,_,_⟩:=HRP.cells
         rw[List.length_map] at hv9
         subst hv9
         have HRQ:=Aa HRP
         have HCT8:=Aa HCT
         have HCL9:=Aa hcl9
         have hr1:=HB.out.1
         have hr2:=HX.out.2.2.1
         have hr3:=HPB.out.2
         have hr4:1000≤1000*C1.waits.length:=by rw[HW.out,List.length_cons];omega
         have HN8:=Aa (show rs.length≤1000000∧rs2.length≤1000 from ⟨by omega,by omega⟩)
         clear hz HL8 hcl9 hr1 hr2 hr3 hr4 HP8
         go_wp2_with (refine Ci rfl slRp (.tmp 49) (.tmp 59) rfl HO8.out.own rfl rfl (news:=(rs2.map rpC).flatten) HCL9.out (by rw[AJ (s:=3) (by intro y hy;obtain⟨q,_,rfl⟩:=List.mem_map.1 hy;rfl),List.length_map]) (by intro u hu;obtain⟨y,hy,hu⟩:=List.mem_flatten.1 hu;obtain⟨q,_,rfl⟩:=List.mem_map.1 hy;simp only[rpC,List.mem_cons,List.not_mem_nil,or_false] at hu;rcases hu with rfl | rfl | rfl<;>rfl) (by rw[List.length_map];have:=HN8.out;omega) (by rw[List.length_map];have:=HN8.out;omega) (Nat.zero_le _) ?_;intro v' w7 h1 h2 h3;have HAP:=Aa (HO8.out.many (ys:=rs2.map rpC) (by rw[show (rs2.map rpC).length=rs2.length from List.length_map ..];exact h1) h3 (by intro y hy;obtain⟨q,_,rfl⟩:=List.mem_map.1 hy;rfl));have HGR:=Aa (Fp.of_gr ⟨h2⟩);clear h1 h2 h3)
         have HC9:=Aa ((HC5.out.trans HCT8.out).mv0 HGR.out (fun k hk=>by have h1:=HO8.out.blk k hk;exact⟨HGH.out k h1,h1⟩))
         refine⟨⟨_,C3,X2,rs++rs2,rfl,Aa ?_,HC9,Aa ?_,Aa ⟨?_,?_⟩⟩,?_⟩
         ·rw[HE.out,HW.out,HX.out.2.2.2 _ HLE.out,HX.out.1,HX.out.2.1,List.append_assoc]
         ·rw[List.map_append]
          exact HAP.out.mono fun k _ hk=>hk.elim _root_.id fun hk=>Nat.le_trans HC5.out.fp.size (Nat.le_trans HCT8.out.fp.size hk)
         ·have:=HB.out.1
          rw[HW.out,List.length_cons] at this
          have:=HX.out.2.2.1
          have:=HPB.out.2
          rw[HX.out.1,List.length_append]
          omega
         ·rw[HX.out.1]
          exact fun wt hm=>HB.out.2 wt (by rw[HW.out];exact List.mem_cons_of_mem _ hm)
         ·rw[HWL.out,wlen_eq HC9.out.at_,HX.out.1,HW.out,List.length_cons]
          omega
   ·have hleI:¬ (p.epoch:Int)≤((Iz d.lasts:Nat):Int):=by rw[HAK.out];omega
    have HLE:=Aa hle
    clear hle
    go_upto_region 5 with fail
    refine' Bi 23 12 Le (Is _::Is _::Is _::Is _::Is _::Is _::Is _::Is _::Is _::Is _::Is _::Is _::Is _::Is _::Is _::Is _::Is _::Is _::Is _::Is _::Is _::Is _::Is _::[]) ([]::[0]::[1]::[2]::[3]::[4]::[5]::[6]::[6,7]::[6,8]::[6,9]::[6,10]::[6,11]::[6,12]::[6,13]::[6,14]::[6]::[6,16]::[6,17]::[6,18]::[6,19]::[6,15,20]::[6,21]::[]) (by kernel_rfl) (by kernel_rfl) (by rfl) (by kernel_rfl) Le.refl (fun _ _ _ h h'=>h.trans h') ⟨St.is,St.is,St.is,St.is,St.is,St.is,St.is,St.is,St.is,St.is,St.is,St.is,St.is,St.is,St.is,St.is,St.is,St.is,St.is,St.is,St.is,St.is,St.is,trivial⟩ ?m5
    case m5 =>
     simp (maxSteps:=100000000) only [AR,Bv,AK,AC,An,AD,Am,Au,List.set_cons_succ,List.set_cons_zero,List.getElem?_cons_zero,List.getElem?_cons_succ,List.take_succ_cons,List.take_zero,List.drop_succ_cons,List.drop_zero,List.cons_append,List.nil_append,List.length_cons,List.length_nil,Nat.reduceAdd]
     intro x0 x1 x2 x3 x4 x5 x6 x7 x8 x9 x10 x11 x12 x13 x14 x15 x16 x17 x18 x19 x20 x21 x22
     refine⟨⟨?_,?_,?_,?_,?_,?_,?_,?_,?_,?_,?_,?_,?_,?_,?_,?_,?_,?_,?_,?_,?_,?_,?_,trivial⟩,?_⟩
     ·intro wo hw KQ hK;go_simp;exact hK _ _ .r .m
     ·intro wo hw h0 KQ hK;cases h0;go_simp;exact hK _ _ .r .m
     ·intro wo hw h1 KQ hK;cases h1;go_simp;exact hK _ _ .r .m
     ·intro wo hw h2 KQ hK;cases h2;have kk:=Af (hw.heap HCC.out) 23 (.slice (some ⟨gb,o,none⟩) (l.length+1) (cap+1)) rfl wo (Le.refl _);go_simp;exact hK _ _ .r .m
     ·intro wo hw h3 KQ hK;cases h3;go_simp;exact hK _ _ .r .m
     ·intro wo hw h4 KQ hK;cases h4;go_simp;exact hK _ _ .r .m
     ·intro wo hw h5 KQ hK;cases h5;go_simp;exact hK _ _ .r .m
     ·intro wo hw h6 KQ hK;cases h6;go_simp;exact hK _ _ .r .m
     ·intro wo hw h6 h7 KQ hK;cases h6;cases h7;go_simp;exact hK _ _ .r .m
     ·intro wo hw h6 h8 KQ hK;cases h6;cases h8;go_simp;exact hK _ _ .r .m
     ·intro wo hw h6 h9 KQ hK;cases h6;cases h9;have kk:=Af (hw.heap HCC.out) 23 (.slice (some ⟨gb,o,none⟩) (l.length+1) (cap+1)) rfl wo (Le.refl _);go_simp;exact hK _ _ .r .m
     ·intro wo hw h6 h10 KQ hK;cases h6;cases h10;go_simp;exact hK _ _ .r .m
     ·intro wo hw h6 h11 KQ hK;cases h6;cases h11;have kk:=hw.cell HKC.out;go_simp;exact hK _ _ .r .m
     ·intro wo hw h6 h12 KQ hK;cases h6;cases h12;go_simp;exact hK _ _ .r .m
     ·intro wo hw h6 h13 KQ hK;cases h6;cases h13;go_simp;exact hK _ _ .r .m
     ·intro wo hw h6 h14 KQ hK;cases h6;cases h14;have kk:=Af (hw.heap HPP.out) 1 (.int .u64 p.epoch) rfl wo (Le.refl _);go_simp;exact hK _ _ .r .m
     ·intro wo hw h6 KQ hK;cases h6;go_simp;exact hK _ _ .r .m
     ·intro wo hw h6 h16 KQ hK;cases h6;cases h16;go_simp;exact hK _ _ .r .m
     ·intro wo hw h6 h17 KQ hK;cases h6;cases h17;go_simp;exact hK _ _ .r .m
     ·intro wo hw h6 h18 KQ hK;cases h6;cases h18;have kk:=Af (hw.heap HCC.out) 10 (.pointer (some ⟨X1.bd,0,none⟩)) rfl wo (Le.refl _);go_simp;exact hK _ _ .r .m
     ·intro wo hw h6 h19 KQ hK;cases h6;cases h19;go_simp;refine (bdAcked (HBD.out.le ((Le.refl wr).drew.trans hw))).mono ?_;rintro e w' ⟨rfl,hb⟩;exact hK _ _ (Le.mk hb) (Is.mk _ _)
     ·intro wo hw h6 h15 h20 KQ hK;cases h6;cases h15;cases h20;go_simp;exact hK _ _ .r .m
     ·intro wo hw h6 h21 KQ hK;cases h6;cases h21;go_simp;exact hK _ _ .r .m
     ·intro wz hz h0 h1 h2 h3 h4 h5 h6 h7 h8 h9 h10 h11 h12 h13 h14 h15 h16 h17 h18 h19 h20 h21 h22;cases h0;cases h1;cases h2;cases h3;cases h4;cases h5;cases h6;cases h7;cases h8;cases h9;cases h10;cases h11;cases h12;cases h13;cases h14;cases h15;cases h16;cases h17;cases h18;cases h19;cases h20;cases h21;cases h22;skip
      go_wp2_with fail
      rw[HR.out,HE.out,HW.out]
      have HL9:=Aa ((Le.refl wr).drew.trans hz)
      have e1:C1.flush C1.board.acked (p::l)=(C1,[]):=by
       unfold Ct.flush
       rw[if_neg HLE.out,← HW.out]
      rw[e1]
      refine⟨_,X1,rfl,by rw[List.append_nil];exact HO.out.le HL9.out,?_⟩
      rw[HG.out]
      exact HC.out.le HL9.out
end
structure Nk (A:Nat→Prop) (n T m:Nat) (φ:Array Value→Prop) (w w':World):Prop where
 os:w'.os=w.os
 tape:w'.tape=w.tape
 output:w'.output=w.output
 size:w.heap.size≤w'.heap.size
 keep:∀ (k:Nat) (o:Obj),¬ A k→w.heap[k]?=some o→w'.heap[k]?=some o∨(n≤k∧∃ cs cs':Array Value,o=.cells cs T (0,0)∧w'.heap[k]?=some (.cells cs' T (0,0))∧cs.size=m∧cs'.size=m∧φ cs')
section
variable {A:Nat→Prop} {n T m:Nat} {φ:Array Value→Prop} {w w' w'':World}
theorem Nk.refl (w:World):Nk A n T m φ w w:=⟨rfl,rfl,rfl,Nat.le_refl _,fun _ _ _ h=>.inl h⟩
theorem Nk.trans (h:Nk A n T m φ w w') (h':Nk A n T m φ w' w''):Nk A n T m φ w w'':=by
 refine⟨h'.os.trans h.os,h'.tape.trans h.tape,h'.output.trans h.output,Nat.le_trans h.size h'.size,fun k o ha hk=>?_⟩
 rcases h.keep k o ha hk with h1 | ⟨hn,cs,cs',rfl,h1,e1,e2,hp⟩
 ·exact h'.keep k o ha h1
 ·rcases h'.keep k _ ha h1 with h2 | ⟨_,cs1,cs2,e,h2,e3,e4,hp2⟩
  ·exact .inr ⟨hn,cs,cs',rfl,h2,e1,e2,hp⟩
  ·exact .inr ⟨hn,cs,cs2,rfl,h2,e1,e4,hp2⟩
theorem Nk.of_fp (h:Fp A w w'):Nk A n T m φ w w':=⟨h.os,h.tape,h.output,h.size,fun k o ha hk=>.inl (h.heap hk ha)⟩
theorem Nk.of_le (h:Le w w'):Nk A n T m φ w w':=⟨h.out.os,h.out.tape,h.out.output,h.out.size,fun k o _ hk=>.inl (h.heap hk)⟩
theorem Nk.mono {A':Nat→Prop} (h:Nk A n T m φ w w') (hA:∀ k,A k→A' k):Nk A' n T m φ w w':=⟨h.os,h.tape,h.output,h.size,fun k o ha hk=>h.keep k o (fun e=>ha (hA k e)) hk⟩
theorem Nk.old (h:Nk A n T m φ w w') {k:Nat} {o:Obj} (hk:w.heap[k]?=some o) (hn:k<n) (ha:¬ A k):w'.heap[k]?=some o:=by
 rcases h.keep k o ha hk with h1 | ⟨h2,_⟩
 ·exact h1
 ·omega
theorem Nk.typ (h:Nk A n T m φ w w') {k:Nat} {cs:Array Value} {T':Nat} {fr:Nat×Nat} (hk:w.heap[k]?=some (.cells cs T' fr)) (hT:T'≠T) (ha:¬ A k):w'.heap[k]?=some (.cells cs T' fr):=by
 rcases h.keep k _ ha hk with h1 | ⟨_,_,_,e,_⟩
 ·exact h1
 ·injection e with _ e _
  exact absurd e hT
theorem Nk.fp (h:Nk A n T m φ w w'):Fp (fun k=>A k∨(n≤k∧∃ cs,w.heap[k]?=some (.cells cs T (0,0)))) w w':=by
 refine⟨h.os,h.tape,h.output,h.size,fun k hk hs=>?_⟩
 have e:w.heap[k]?=some w.heap[k]:=Array.getElem?_eq_getElem hk
 rcases h.keep k _ (fun ha=>hs (.inl ha)) e with h1 | ⟨h2,cs,_,e2,_⟩
 ·rw[h1,e]
 ·exact absurd (.inr ⟨h2,cs,by rw[e,e2]⟩) hs
theorem Nk.own {M:Nat→Prop} {s:Nat} {T':Nat} {v:Value} {xs:List (List Value)} (h:AA M w T' s v xs) (hn:Nk A n T m φ w w') (hT:T'≠T) (hA:∀ k,v.ownBlock=some k→¬ A k):AA M w' T' s v xs :=
 ⟨Bp h.own hn.fp (fun k hk e=>by
  rcases e with e | ⟨_,cs,e⟩
  ·exact hA k hk e
  ·exact h.row_ne e hT hk),h.blk,h.len⟩
theorem Nk.store {g:Nat} {cs cs':Array Value} (hg:w.grownBy w' (some g)) (hB:n≤g) (h0:w.heap[g]?=some (.cells cs T (0,0))) (h1:w'.heap[g]?=some (.cells cs' T (0,0))) (e1:cs.size=m) (e2:cs'.size=m) (hp:φ cs'):Nk A n T m φ w w':=by
 refine⟨hg.os,hg.tape,hg.output,hg.size,fun k o _ hk=>?_⟩
 by_cases e:k=g
 ·subst e
  rw[h0] at hk
  injection hk with hk
  exact .inr ⟨hB,cs,cs',hk.symm,h1,e1,e2,hp⟩
 ·exact .inl ((hg.block k (Ah hk) (by intro h;injection h with h;exact e h)).trans hk)
def Cw (A:Nat→Prop) (n T m:Nat) (v:Value) (W:World):Prop:=∃ (g:Nat) (cs:Array Value),v=.pointer (some ⟨g,0,none⟩)∧n≤g∧¬ A g∧W.heap[g]?=some (.cells cs T (0,0))∧cs.size=m
theorem Cw.stay {v:Value} (h:Nk A n T m φ w w') (hs:Cw A n T m v w):Cw A n T m v w':=by
 obtain⟨g,cs,hv,hB,ha,hg,hz⟩:=hs
 rcases h.keep g _ ha hg with h1 | ⟨_,_,cs2,_,h2,_,e4,_⟩
 ·exact⟨g,cs,hv,hB,ha,h1,hz⟩
 ·exact⟨g,cs2,hv,hB,ha,h2,e4⟩
theorem Cw.new {cs:Array Value} (hB:n≤w.heap.size) (hA:∀ k,A k→k<n) (hz:cs.size=m):Cw A n T m (.pointer (some ⟨w.heap.size,0,none⟩)) (w.alloc (.cells cs T)):=⟨_,cs,rfl,hB,fun e=>by have:=hA _ e;omega,heap_alloc_new _ _,hz⟩
theorem Nk.fill {g:Nat} {c:Array Value} (h:Nk A n T m (fun x=>x=c) w w') (ha:¬ A g) (hg:w.heap[g]?=some (.cells c T (0,0))):w'.heap[g]?=some (.cells c T (0,0)):=by
 rcases h.keep g _ ha hg with h1 | ⟨_,_,cs2,_,h2,_,_,e⟩
 ·exact h1
 ·rw[h2,e]
end
theorem F2.all' {α β:Type} {R:α→β→Prop}:∀ {l:List α} {m:List β},F2 R l m→∀ {p:α→Bool} {q:β→Bool},(∀ x y,R x y→p x=q y)→l.all p=m.all q
 | [],m,h,p,q,hp=>by rw[h.nil_iff.1 rfl];rfl
 | x::l,[],h,p,q,hp=>by have:=h.len;simp at this
 | x::l,y::m,h,p,q,hp=>by rw[List.all_cons,List.all_cons,hp x y h.head,F2.all' h.tail hp]
theorem F2.map {α β γ δ:Type} {R:α→β→Prop} {R':γ→δ→Prop} {f:α→γ} {g:β→δ} {l:List α} {m:List β} (h:F2 R l m) (hr:∀ x y,x∈l→y∈m→R x y→R' (f x) (g y)):F2 R' (l.map f) (m.map g):=⟨by simp[h.len],fun i a b ha hb=>by
 rw[List.getElem?_map,Option.map_eq_some_iff] at ha hb
 obtain⟨x,hx,rfl⟩:=ha
 obtain⟨y,hy,rfl⟩:=hb
 exact hr x y (List.mem_of_getElem? hx) (List.mem_of_getElem? hy) (h.at_ i x y hx hy)⟩
theorem Il (l:List (ASl (Nat×Nat))):AN (l.map slP)=AN l:=by
 induction l with
 | nil=>rfl
 | cons s l ih =>
  rw[List.map_cons,AN,AN,ih]
  cases h:s.x<;>simp[slP,h]
theorem Ii (l:List (ASl (Nat×Nat))) (p s:Nat):AO (l.map slP) p=((AO l (p,s)).1.map slP,(AO l (p,s)).2):=by
 rw[AO,AO,Il,List.length_map,arAt_map]
 split
 ·rw[List.map_set]
  rfl
 ·rfl
theorem Iu {β:Type} (l:List (ASl β)) (d d':β):(AO l d).2=(AO l d').2:=by
 rw[AO,AO]
 split<;>rfl
def gDn (g:Nat→Nat) (n p k:Nat):Nat:=if k<n then g k else if k=p then 11 else 0
theorem CV {g:Nat→Nat} {n p:Nat}:∀ k,k<n→gDn g n p k=g k:=fun k h=>by rw[gDn,if_pos h]
section
variable {g:Nat→Nat} {w w1:World} {c:Nat} {X:CtX} {C:Ct (Nat×Nat)}
theorem Bg.room (h:Bg g w c X C):∃ d,Bu (tg g 4) w X.bd d∧Gj g w d C.board∧(d.qs.all fun q=>decide (q.l.length<d.R))=C.board.hasRoom:=by
 obtain⟨d,hd,hr⟩:=h.bd
 refine⟨d,hd,hr,?_⟩
 rw[Bd.hasRoom]
 exact F2.all' hr.qs fun q l hq=>by rw[hq.len,hr.room]
theorem ctRoom (h:Bg g w c X C):Calls Tryz.prog 117 #[.pointer (some ⟨X.bd,0,none⟩)] w fun e w'=>e=.returned (.bool C.board.hasRoom)∧Le w w':=by
 obtain⟨d,hd,hr,e⟩:=h.room
 have:=bdRoom hd
 rw[e] at this
 exact this
theorem ctTake (h:Bg g w c X C) {n:Nat} (hn:n=w.heap.size) (hl:Le w w1) {p ssrc:Nat} (hd:EA w1 p ssrc) (hp:n≤p):Calls Tryz.prog 119 #[.pointer (some ⟨X.ar,0,none⟩),.pointer (some ⟨p,0,none⟩)] w1 fun e w'=>e=.returned (.tuple #[.agg #[.int .i64 (AO C.slots (p,ssrc)).2.1.slot,.int .u32 (AO C.slots (p,ssrc)).2.1.turn],.int .i64 (AO C.slots (p,ssrc)).2.2])∧Fp (fun k=>k<n∧g k=2) w1 w'∧Bj g w c X (gDn g n p) w' X { C with slots:=(AO C.slots (p,ssrc)).1 }:=by
 subst hn
 obtain⟨aB,h1,h2,h3⟩:=h.ar
 obtain⟨cur,hB,_⟩:=h1.hB
 have la:=Ah h1.ha
 have lb:=Ah hB
 refine (Hs (h1.le hl) p).mono ?_
 rintro e w' ⟨rfl,ha,hf⟩
 rw[Ii _ p ssrc] at ha ⊢
 have hs:∀ k,arS X.ar aB k→k<w.heap.size∧g k=2:=fun k hk=>by rcases hk with rfl | rfl;exact⟨la,h2⟩;exact⟨lb,h3⟩
 refine⟨rfl,hf.mono hs,h.setSlots ((Fp.of_le hl).trans hf) (fun k hk=>(hs k hk).2) CV _ ⟨aB,ha,(CV _ la).trans h2,(CV _ lb).trans h3⟩ ?_⟩
 have hold:In (gDn g w.heap.size p) w' C.slots:=h.dn.mv ((Fp.of_le hl).trans hf) (fun k hk=>by rw[(hs k hk).2];decide) CV
 rw[AO]
 split
 ·intro s hs' x hx
  rcases List.mem_or_eq_of_mem_set hs' with hs' | rfl
  ·exact hold s hs' x hx
  ·injection hx with hx
   subst hx
   obtain⟨cs,hd⟩:=hd
   exact⟨⟨cs,hf.heap hd (fun e=>by have:=(hs p e).1;omega)⟩,by rw[gDn,if_neg (by dsimp only;omega),if_pos rfl]⟩
 ·exact hold
theorem Bg.putSeat (h:Bg g w c X C) (hn:C.seats.length≤1000) {who track:Int} (h1:(Lit.int .i64 who).wf=true) (h2:(Lit.int .i64 track).wf=true) (hk:(who,track)∉C.seats.map fun y=>(y.who,y.track)) (r:Rf) (ssrc:Nat) :
  ∃ w',(Instr.mapUpdate 153 (.map (some X.sm)) (Hy (who,track)) (FV ⟨who,track,r,ssrc⟩)).run Tryz.prog w=.ok () w'∧Fp (fun k=>k=X.sm) w w'∧Bj g w c X g w' X { C with seats:=C.seats++[⟨who,track,r,ssrc⟩] }:=by
 obtain⟨lit,hlit⟩:=Hn h1 h2
 obtain⟨w',hr,hM,hg⟩:=h.sm.1.putNew DW Tryz.underlying153 (by rw[List.length_map];omega) hlit (fun v hv=>by
  obtain⟨y,hy,ey⟩:=List.mem_map.1 hv
  injection ey with ey _
  have:=subE_inj ey
  exact hk (List.mem_map.2 ⟨y,hy,this⟩)) (FV ⟨who,track,r,ssrc⟩)
 have hf:Fp (fun k=>k=X.sm) w w':=Fp.of_grown hg rfl
 exact⟨w',hr,hf,h.setSeats hf (fun k hk=>by rw[hk];exact h.sm.2) (fun _ _=>rfl) _ ⟨by rw[List.map_append];exact hM,h.sm.2⟩⟩
theorem Bg.delSeat (h:Bg g w c X C) (hk:(C.seats.map fun y=>(y.who,y.track)).Nodup) {y:C0} (hy:y∈C.seats) (h1:(Lit.int .i64 y.who).wf=true) (h2:(Lit.int .i64 y.track).wf=true) (ty:TypeId) :
  ∃ w',(Builtin.delete_ #[153,300] ty #[.map (some X.sm),Hy (y.who,y.track)]).run Tryz.prog w=.ok (.tuple #[]) w'∧Fp (fun k=>k=X.sm) w w'∧Bj g w c X g w' X { C with seats:=C.seats.filter fun z=>!(decide (z.who=y.who)&&decide (z.track=y.track)) }:=by
 obtain⟨lit,hlit⟩:=Hn h1 h2
 obtain⟨l1,l2,e1,e2⟩:=EV hk hy
 rw[e2]
 have hM:=h.sm.1
 rw[e1,List.map_append,List.map_cons] at hM
 obtain⟨w',hr,hM',hg⟩:=hM.del DW Tryz.underlying153 hlit ty
 have hf:Fp (fun k=>k=X.sm) w w':=Fp.of_grown hg rfl
 exact⟨w',hr,hf,h.setSeats hf (fun k hk=>by rw[hk];exact h.sm.2) (fun _ _=>rfl) _ ⟨by rw[List.map_append];exact hM',h.sm.2⟩⟩
theorem ctRetire (h:Bg g w c X C) (r:Rf) (e:Nat):Calls Tryz.prog 122 #[.pointer (some ⟨X.pn,0,none⟩),.agg #[.int .i64 r.slot,.int .u32 r.turn],.int .u64 e] w fun en w'=>(∃ v,en=.returned v)∧Fp (fun k=>k<w.heap.size∧g k=3) w w'∧Bj g w c X (Bn g w.heap.size 3) w' X { C with pins:=(C.pins.retire r e).1 }:=by
 obtain⟨Bl,wv,hp⟩:=h.pn
 refine (pnRetire (hp.mono (M':=fun k=>tg g 3 k∧k<w.heap.size) fun k hk h=>⟨h,hk⟩) r e).mono ?_
 rintro en w' ⟨rfl,⟨wv',hp'⟩,hf⟩
 exact⟨⟨_,rfl⟩,hf.mono fun k hk=>⟨hk.2,hk.1⟩,h.setPins (hf.mono fun k hk=>hk.1) (fun k hk=>hk) Az _ ⟨Bl,wv',hp'.mono fun k _ hk=>hk.elim (fun e=>(Az k e.2).trans e.1) (fun e=>AM e)⟩⟩
theorem ctSend (h:Bg g w c X C) (hr:C.board.hasRoom=true) {t:Nat} {tb:Tb} (ht:DY (tg g 8) w t tb):Calls Tryz.prog 124 #[.pointer (some ⟨X.bd,0,none⟩),.pointer (some ⟨t,0,none⟩)] w fun e w'=>(∃ v,e=.returned v)∧Bj g w c X (Bn g w.heap.size 4) w' X { C with board:=C.board.send tb }:=by
 obtain⟨d,hd,hrel,he⟩:=h.room
 rw[hr,List.all_eq_true] at he
 refine (bdSend (hd.mono (M':=fun k=>tg g 4 k∧k<w.heap.size) fun k hk h=>⟨h,hk⟩) t (fun q hq=>by simpa using he q hq)).mono ?_
 rintro e w' ⟨rfl,hd',hf⟩
 have e1:C.board.send tb=⟨C.board.room,C.board.q.map (·++[tb]),C.board.acks,C.board.last⟩:=by rw[Bd.send,hr];rfl
 rw[e1]
 have hs8:∀ k,(tg g 4 k∧k<w.heap.size)→g k≠8:=fun k hk=>by rw[hk.1];decide
 have ht':=ht.mv (g':=Bn g w.heap.size 4) hf hs8 Az
 have hrel':=hrel.mv (g':=Bn g w.heap.size 4) hf hs8 Az
 exact⟨⟨_,rfl⟩,h.setBoard (hf.mono fun k hk=>hk.1) (fun k hk=>hk) Az _ ⟨_,hd'.mono fun k _ e=>(Az k e.2).trans e.1,⟨hrel'.room,hrel'.acks,hrel'.lasts,hrel'.qs.map fun q l _ _ hq=>hq.append (F2.one ht')⟩⟩⟩
end
end Go.Proofs.YtmcndlofaanjiaaGreat
