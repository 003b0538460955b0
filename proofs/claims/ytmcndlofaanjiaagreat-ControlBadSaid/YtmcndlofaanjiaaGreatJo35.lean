/- Texts of one claim, laid together: CtD -/
import Derived.Test.YtmcndlofaanjiaaGreatJo34
/- control.do. (Written by gen_ctdo.py.) -/
namespace Go.Proofs.YtmcndlofaanjiaaGreat
open Go.RowKit
set_option linter.unusedVariables false
set_option maxRecDepth 100000
set_option maxHeartbeats 8000000
section
variable {A:Nat→Prop} {n T m:Nat} {φ:Array Value→Prop} {w w':World}
theorem Nk.le (h:Nk (fun _=>False) n T m φ w w') (hn:w.heap.size≤n):Le w w':=⟨⟨h.os,h.tape,h.output,h.size,fun k hk=>by
 have e:w.heap[k]?=some w.heap[k]:=Array.getElem?_eq_getElem hk
 rw[h.old e (by omega) (fun e=>e),e]⟩⟩
theorem Nk.old' {A:Nat→Prop} (h:Nk A n T m φ w w') {k:Nat} {o:Obj} (hk:w.heap[k]?=some o) (hn:k<n∧¬ A k):w'.heap[k]?=some o:=h.old hk hn.1 hn.2
theorem DsB.nk {M:Nat→Prop} {s:DS} {pv tv sv:Value} {ts:List (Trk×Value)} (h:DsB M w s pv tv sv ts) (hn:Nk (fun _=>False) n T m φ w w') (h1:94≠T) (h2:182≠T) (h3:133≠T) (h4:110≠T):DsB M w' s pv tv sv ts :=
 ⟨Nk.own h.hP hn h1 (fun _ _ e=>e),Nk.own h.hT hn h2 (fun _ _ e=>e),Nk.own h.hS hn h3 (fun _ _ e=>e),h.eT,fun t ht=>Nk.own (h.hR t ht) hn h4 (fun _ _ e=>e)⟩
theorem AA.avoid {M:Nat→Prop} {T' s:Nat} {v:Value} {xs:List (List Value)} (h:AA M w T' s v xs) {g:Nat} {cs:Array Value} {fr:Nat×Nat} (hg:w.heap[g]?=some (.cells cs T fr)) (hT:T'≠T):AA (fun k=>M k∧k≠g) w T' s v xs :=
 ⟨h.own,fun k hk=>⟨h.blk k hk,fun e=>h.row_ne hg hT (e▸hk)⟩,h.len⟩
theorem DsB.avoid {M:Nat→Prop} {s:DS} {pv tv sv:Value} {ts:List (Trk×Value)} (h:DsB M w s pv tv sv ts) {g:Nat} {cs:Array Value} {fr:Nat×Nat} (hg:w.heap[g]?=some (.cells cs T fr)) (h1:94≠T) (h2:182≠T) (h3:133≠T) (h4:110≠T):DsB (fun k=>M k∧k≠g) w s pv tv sv ts :=
 ⟨h.hP.avoid hg h1,h.hT.avoid hg h2,h.hS.avoid hg h3,h.eT,fun t ht=>(h.hR t ht).avoid hg h4⟩
theorem EA.nk {p s:Nat} (hn:Nk A n T m φ w w') (h:EA w p s) (hT:263≠T) (ha:¬ A p):EA w' p s:=by
 obtain⟨cs,h⟩:=h
 exact⟨cs,hn.typ h hT ha⟩
theorem EA.fp8 {p s n:Nat} {g:Nat→Nat} (h:EA w p s) (hf:Fp (fun k=>k<n∧g k=2) w w') (hp:n≤p):EA w' p s:=by
 obtain⟨cs,h⟩:=h
 exact⟨cs,hf.heap h (fun e=>by omega)⟩
theorem Fp.nk {w0:World} {S:Nat→Prop} (hn:w0.heap.size=n) (h:Fp S w0 w) (hk:Nk (fun _=>False) n T m φ w w'):Fp S w0 w' :=
 ⟨hk.os.trans h.os,hk.tape.trans h.tape,hk.output.trans h.output,Nat.le_trans h.size hk.size,fun k hk1 hs=>by
  have h1:=h.block k hk1 hs
  have e:w.heap[k]?=some (w.heap[k]'(Nat.lt_of_lt_of_le hk1 h.size)):=Array.getElem?_eq_getElem _
  rw[hk.old e (by omega) (fun e=>e),← e]
  exact h1⟩
theorem Bj.nk {g:Nat→Nat} {w0:World} {c p s:Nat} {X X':CtX} {C':Ct (Nat×Nat)} (hn:w0.heap.size=n) (h:Bj g w0 c X (gDn g n p) w X' C') (hk:Nk (fun _=>False) n T m φ w w') (hp:n≤p) (hd:EA w p s) (hT:263≠T):Bj g w0 c X (gDn g n p) w' X' C' :=
 h.mv0 hk.fp fun k hk=>by
  rcases hk with hk | ⟨hk,cs,e⟩
  ·exact hk.elim
  ·refine⟨?_,by omega⟩
   rw[gDn,if_neg (by omega),if_neg]
   intro e2
   obtain⟨cs2,hd⟩:=hd
   rw[← e2,e] at hd
   injection hd with hd
   injection hd with _ hd _
   exact hT hd.symm
end
def gSt (g:Nat→Nat) (n x k:Nat):Nat:=if k<n then g k else if k=x then 0 else 7
theorem GE {g:Nat→Nat} {n x:Nat}:∀ k,k<n→gSt g n x k=g k:=fun k h=>by rw[gSt,if_pos h]
theorem gSt_new {g:Nat→Nat} {n x k:Nat} (h1:n≤k) (h2:k≠x):gSt g n x k=7:=by rw[gSt,if_neg (by omega),if_neg h2]
theorem gSt_box {g:Nat→Nat} {n x:Nat} (h1:n≤x):gSt g n x x=0:=by rw[gSt,if_neg (by omega),if_pos rfl]
theorem Bg.st3 {g:Nat→Nat} {w w':World} {c:Nat} {X:CtX} {C:Ct (Nat×Nat)} (h:Bg g w c X C) (hl:Le w w') {n:Nat} (hn:n=w.heap.size) (x:Nat):Bj g w c X (gSt g n x) w' X C:=by
 subst hn
 exact⟨h.mv (S:=fun _=>False) (Fp.of_le hl) (fun _ h=>h.elim) GE,GE,rfl,rfl,rfl,Fp.of_le hl⟩
theorem DS.subWf {s:DS} (ok:s.Ok) {x:Sub} (hx:x∈s.subs):1≤x.who∧x.who≤999∧1≤x.track∧x.track≤999:=by
 obtain⟨a,b,_⟩:=ok.sIn x hx
 obtain⟨p,hp,e1⟩:=Bs.1 a
 obtain⟨t,ht,e2⟩:=By.1 b
 have h1:=AY.1 (ok.pIn p hp).1
 have h2:=AY.1 (ok.tIn t ht).1
 omega
section
variable {g:Nat→Nat} {w w':World} {c:Nat} {X X':CtX} {C C':Ct (Nat×Nat)}
theorem Bg.cfp (h:Bg g w c X C) (hg:w.grownBy w' (some c)):Fp (fun k=>k=c) w w'∧∀ i,i≠1→∀ k,k=c→g k≠i:=⟨Fp.of_grown hg rfl,fun i hi k hk e=>hi (by rw[hk,h.gc] at e;exact e.symm)⟩
theorem Bg.setEver (h:Bg g w c X C) (hg:w.grownBy w' (some c)) (ever:Nat) (hb:w'.heap[c]?=some (.cells (ctC C.cf C.s X ever).toArray 156 (0,0))):Bj g w c X g w' X { C with ever:=ever }:=by
 obtain⟨hf,hn⟩:=h.cfp hg
 exact h.setBlock (g':=g) hf (fun k hk=>by rw[hk];exact h.gc) (fun _ _=>rfl) { C with ever:=ever } X ⟨rfl,rfl,rfl,rfl,rfl,rfl⟩ ⟨rfl,rfl,rfl,rfl,rfl,rfl,rfl⟩ hb (h.st.mv hf (hn 7 (by decide)) (fun _ _=>rfl)) (h.tb.mv hf (hn 8 (by decide)) (fun _ _=>rfl)) (h.wt.mv hf (hn 10 (by decide)) (fun _ _=>rfl))
theorem Bg.setState (h:Bg g w c X C) (hg:w.grownBy w' (some c)) {s:DS} {pv tv sv:Value} {ts:List (Trk×Value)} (hd:DsB (tg g 7) w s pv tv sv ts) (hb:w'.heap[c]?=some (.cells (ctC C.cf s { X with pv:=pv,tv:=tv,sv:=sv } C.ever).toArray 156 (0,0))):Bj g w c X g w' { X with pv:=pv,tv:=tv,sv:=sv } { C with s:=s }:=by
 obtain⟨hf,hn⟩:=h.cfp hg
 exact h.setBlock (g':=g) hf (fun k hk=>by rw[hk];exact h.gc) (fun _ _=>rfl) { C with s:=s } { X with pv:=pv,tv:=tv,sv:=sv } ⟨rfl,rfl,rfl,rfl,rfl,rfl⟩ ⟨rfl,rfl,rfl,rfl,rfl,rfl,rfl⟩ hb ⟨ts,hd.fp hf (fun k hk e=>hn 7 (by decide) k hk e)⟩ (h.tb.mv hf (hn 8 (by decide)) (fun _ _=>rfl)) (h.wt.mv hf (hn 10 (by decide)) (fun _ _=>rfl))
theorem Bg.setTb (h:Bg g w c X C) (hg:w.grownBy w' (some c)) {t:Nat} {tb:Tb} (ht:DY (tg g 8) w t tb) (hb:w'.heap[c]?=some (.cells (ctC C.cf C.s { X with tb:=some t } C.ever).toArray 156 (0,0))):Bj g w c X g w' { X with tb:=some t } { C with t:=some tb }:=by
 obtain⟨hf,hn⟩:=h.cfp hg
 exact h.setBlock (g':=g) hf (fun k hk=>by rw[hk];exact h.gc) (fun _ _=>rfl) { C with t:=some tb } { X with tb:=some t } ⟨rfl,rfl,rfl,rfl,rfl,rfl⟩ ⟨rfl,rfl,rfl,rfl,rfl,rfl,rfl⟩ hb (h.st.mv hf (hn 7 (by decide)) (fun _ _=>rfl)) (DY.mv ht hf (hn 8 (by decide)) (fun _ _=>rfl)) (h.wt.mv hf (hn 10 (by decide)) (fun _ _=>rfl))
theorem DsB.re {G:Nat→Nat} {s:DS} {pv tv sv:Value} {ts:List (Trk×Value)} (h:DsB (tg g 7) w s pv tv sv ts) {S:Nat→Prop} (hf:Fp S w w') (hs:∀ k,S k→g k≠7) (hG:∀ k,k<w.heap.size→G k=g k):DsB (tg G 7) w' s pv tv sv ts :=
 ((h.mono (M':=fun k=>tg g 7 k∧k<w.heap.size) (fun k hk h=>⟨h,hk⟩)).fp hf (fun k hk e=>hs k hk e.1)).mono fun k _ e=>(hG k e.2).trans e.1
theorem AA.re {G:Nat→Nat} {i T s:Nat} {v:Value} {xs:List (List Value)} (h:AA (fun k=>g k=i) w T s v xs) {S:Nat→Prop} (hf:Fp S w w') (hs:∀ k,S k→g k≠i) (hG:∀ k,k<w.heap.size→G k=g k):AA (fun k=>G k=i) w' T s v xs :=
 ((h.mono (M':=fun k=>g k=i∧k<w.heap.size) (fun k hk h=>⟨h,hk⟩)).fp hf (fun k hk e=>hs k hk e.1)).mono fun k _ e=>(hG k e.2).trans e.1
theorem pre_s {mk:Nat→Nat×Nat} {q:Rq}:(C.pre mk q).s=C.s∧(C.pre mk q).board=C.board∧(C.pre mk q).t=C.t∧(C.pre mk q).cf=C.cf:=by
 unfold Ct.pre
 split<;>exact⟨rfl,rfl,rfl,rfl⟩
end
theorem BP.new_key {C:Ct (Nat×Nat)} {n:Nat} (h:BP C n) {q:Rq} (hk:q.kind=5) (h0:(C.s.do_ q).2=0):(q.who,q.track)∉C.seats.map fun y=>(y.who,y.track):=fun hm=>by
 obtain⟨d1,d2⟩:=DS.do_five hk h0
 obtain⟨y,hy,e⟩:=List.mem_map.1 hm
 injection e with e1 e2
 have:=h.sub y hy
 rw[e1,e2,d1] at this
 cases this
theorem five_wf {C:Ct (Nat×Nat)} {n:Nat} (h:BP C n) {q:Rq} (hk:q.kind=5) (h0:(C.s.do_ q).2=0):1≤q.who∧q.who≤999∧1≤q.track∧q.track≤999:=by
 obtain⟨d1,d2⟩:=DS.do_five hk h0
 exact DS.subWf (DS.do_ok h.fit.ok q) (x:=⟨q.who,q.track,q.layer,q.tid,false⟩) (by rw[d2];exact Bm.2 (.inl rfl))
theorem Fl.at_k {C:Ct (Nat×Nat)} {s:DS} {n:Nat} (h:Fl C s n) (e:Nat) {k:Nat} (hk:k<(C.s.gone s).length):((({ C with s:=s }:Ct (Nat×Nat)).drop e ((C.s.gone s).take k)).seats.map fun y=>(y.who,y.track)).Nodup ∧
  ∃ y∈(({ C with s:=s }:Ct (Nat×Nat)).drop e ((C.s.gone s).take k)).seats,y.who=(C.s.gone s)[k].who∧y.track=(C.s.gone s)[k].track∧BR (({ C with s:=s }:Ct (Nat×Nat)).drop e ((C.s.gone s).take k)).seats (C.s.gone s)[k].who (C.s.gone s)[k].track=y:=by
 have hd:=Dy e ((C.s.gone s).take k) ({ C with s:=s }:Ct (Nat×Nat))
 rw[hd]
 have h1:((C.seats.filter fun y=>!IA ((C.s.gone s).take k) y).map fun y=>(y.who,y.track)).Nodup:=(List.filter_sublist.map _).nodup h.key
 obtain⟨y,hy,a,b⟩:=h.gon _ (List.getElem_mem hk)
 have hin:IA ((C.s.gone s).take k) y=false:=by
  cases hc:IA ((C.s.gone s).take k) y with
  | false=>rfl
  | true =>
   obtain⟨z,hz,e1,e2⟩:=Fn.1 hc
   exact absurd (List.mem_map.2 ⟨z,hz,by rw[← e1,← e2,a,b]⟩) (BX (k:=k) (x:=(C.s.gone s)[k]) h.gnd (List.getElem?_eq_getElem hk))
 have hm:y∈C.seats.filter fun y=>!IA ((C.s.gone s).take k) y:=List.mem_filter.2 ⟨hy,by rw[hin];rfl⟩
 refine⟨h1,y,hm,a,b,?_⟩
 rw[← a,← b]
 exact BY h1 hm
section
variable {g:Nat→Nat} {w:World} {c:Nat} {X:CtX} {C:Ct (Nat×Nat)} {n:Nat}
def CdoP (g:Nat→Nat) (w:World) (c:Nat) (X:CtX) (C:Ct (Nat×Nat)) (q:Rq) (e:Ending) (w':World):Prop :=
 ∃ p g' X',e=.returned (.tuple #[.int .u64 (C.do_ (fun s=>(p,s)) q).2.1,.int .i64 (C.do_ (fun s=>(p,s)) q).2.2])∧Bj g w c X g' w' X' (C.do_ (fun s=>(p,s)) q).1
theorem ctDo (h:Bg g w c X C) (ok:BP C n) (hn:n≤1000000) (q:Rq) (A:Option Addr) (cap:Nat) (hcq:Bk w A (CA q.ssrcs)) (hql:q.ssrcs.length≤1000) (hcap:q.ssrcs.length≤cap) (hA:A=none→q.ssrcs.length=0∧cap=0) :
  Calls Tryz.prog 60 #[.pointer (some ⟨c,0,none⟩),rqV q (.slice A q.ssrcs.length cap)] w (CdoP g w c X C q):=by
 have HOK:=Aa ok
 have HCQ:=Aa hcq
 have HQL:=Aa hql
 have HCAP:=Aa hcap
 have HAN:=Aa hA
 have HFRM:=Aa (show ∀ t∈C.s.tracks,t.from_<4611686018427387904 from fun t ht=>by have:=ok.fit.fr t ht;omega)
 obtain⟨R,hR⟩:∃ R,R=CdoP g w c X C q:=⟨_,rfl⟩
 rw[← hR]
 have HR:=Aa hR
 have HQ1:=Aa (heap_alloc_new w (.cells #[.int .i64 q.kind,.int .i64 q.who,.int .i64 q.room,.int .i64 q.rights,.int .i64 q.track,.slice A q.ssrcs.length cap,.int .i64 q.layer,.int .i64 q.tid] 31))
 have HT1:=Aa (h.re 0 ((Le.refl w).alloc (.cells #[.int .i64 q.kind,.int .i64 q.who,.int .i64 q.room,.int .i64 q.rights,.int .i64 q.track,.slice A q.ssrcs.length cap,.int .i64 q.layer,.int .i64 q.tid] 31)))
 have HL1:=Aa ((Le.refl w).alloc (.cells #[.int .i64 q.kind,.int .i64 q.who,.int .i64 q.room,.int .i64 q.rights,.int .i64 q.track,.slice A q.ssrcs.length cap,.int .i64 q.layer,.int .i64 q.tid] 31))
 have HX1:=Aa (show Bn g w.heap.size 0 w.heap.size=0 from AM (Nat.le_refl _))
 show Calls Tryz.prog 60 #[.pointer (some ⟨c,0,none⟩),.agg #[.int .i64 q.kind,.int .i64 q.who,.int .i64 q.room,.int .i64 q.rights,.int .i64 q.track,.slice A q.ssrcs.length cap,.int .i64 q.layer,.int .i64 q.tid]] w R
 clear hR h ok hcq hql hcap hA
 go_enter Tryz.func60,Tryz.ntmps60
 go_upto_region 1 with fail
 generalize World.alloc w _=w1 at *
 generalize w.heap.size=xq at *
 generalize Bn g xq 0=G1 at *
 have k10:=Af HT1.out.at_.hc 10 (.pointer (some ⟨X.bd,0,none⟩)) rfl w1 (Le.refl _)
 go_wp2_with fail
 refine (ctRoom HT1.out.at_).mono ?_
 rintro e w2 ⟨rfl,hb⟩
 have HT2:=Aa (HT1.out.le hb)
 have HQ2:=Aa (hb.heap HQ1.out)
 have HL2':=Aa (HL1.out.trans hb)
 clear hb k10 HT1 HQ1 HL1
 cases hroom:C.board.hasRoom with
 | false =>
  go_wp2_with fail
  rw[HR.out]
  refine⟨0,G1,X,?_,?_⟩
  ·rw[Gw hroom];rfl
  ·rw[Gw hroom]
   exact HT2.out
 | true =>
  have HROOM:=Aa hroom
  clear hroom
  obtain⟨ts,hds⟩:=HT2.out.at_.st
  have HDS:=Aa hds
  have HP1:=Aa (AF hds.hP)
  have HP2:=Aa (AF hds.hT)
  have HP3:=Aa (AF hds.hS)
  clear hds
  have HDOA:=Aa (show BP C n→(C.s.do_ q).1.Fit (n+1) from fun ok=>DS.do_fit ok.fit q)
  by_cases h0:(C.s.do_ q).2=0
  ·have HE0:=Aa h0
   clear h0
   go_upto_region 3 with fail
   have HC3:=Aa (show w2.drew.heap[c]?=some (.cells #[.int .i64 C.cf.shards,.int .i64 C.cf.intake,.int .i64 C.cf.window,.int .i64 C.cf.keep,.int .i64 C.s.mp,.int .i64 C.s.mt,.int .i64 C.s.ms,.int .i64 C.s.ml,.pointer (some ⟨X.ar,0,none⟩),.pointer (some ⟨X.pn,0,none⟩),.pointer (some ⟨X.bd,0,none⟩),.pointer (some ⟨X.iq,0,none⟩),.pointer (some ⟨X.sn,0,none⟩),.int .i64 C.s.mp,.int .i64 C.s.mt,.int .i64 C.s.ms,.int .i64 C.s.ml,X.pv,X.tv,X.sv,Cp X.tb,.int .u32 C.ever,.map (some X.sm),X.wv] 156 (0,0)) from (Le.refl w2).drew.heap HT2.out.at_.hc)
   have HQ3:=Aa ((Le.refl w2).drew.heap HQ2.out)
   have HL2:=Aa (HL2'.out.trans (Le.refl w2).drew)
   obtain⟨n2,hn2⟩:∃ n,n=w2.heap.size:=⟨_,rfl⟩
   have HN3:=Aa (show w2.drew.heap.size≤n2 from by rw[hn2];exact Nat.le_refl _)
   have HM3:=Aa (show n2≤w2.drew.heap.size from by rw[hn2];exact Nat.le_refl _)
   have HCN3:=Aa (show c<n2∧¬ False from ⟨by rw[hn2];exact Ah HT2.out.at_.hc,fun e=>e⟩)
   have HQN3:=Aa (show xq<n2∧¬ False from ⟨by rw[hn2];exact Ah HQ2.out,fun e=>e⟩)
   have HNN:=Aa hn2
   clear hn2
   obtain⟨s2,hs2⟩:∃ s,s=(C.s.do_ q).1:=⟨_,rfl⟩
   have HS2:=Aa hs2
   rw[← hs2] at HDOA
   clear hs2
   refine' AB 10 11 6 23 Le (Nk (fun _=>False) n2 62 7 (fun _=>True)) (IsD _::IsD _::IsD _::IsD _::IsD _::(fun _ v W=>∃ pv2 tv2 sv2 ts2,v=.tuple #[.agg #[.int .i64 s2.mp,.int .i64 s2.mt,.int .i64 s2.ms,.int .i64 s2.ml,pv2,tv2,sv2],.int .i64 0]∧DsB (fun k=>n2≤k) W s2 pv2 tv2 sv2 ts2)::(fun _ v W=>∃ pv2 tv2 sv2 ts2,v=.tuple #[.agg #[.int .i64 s2.mp,.int .i64 s2.mt,.int .i64 s2.ms,.int .i64 s2.ml,pv2,tv2,sv2],.int .i64 0]∧DsB (fun k=>n2≤k) W s2 pv2 tv2 sv2 ts2)::(fun _ v W=>∃ pv2 tv2 sv2 ts2,v=.agg #[.int .i64 s2.mp,.int .i64 s2.mt,.int .i64 s2.ms,.int .i64 s2.ml,pv2,tv2,sv2]∧DsB (fun k=>n2≤k) W s2 pv2 tv2 sv2 ts2)::IsD (.int .i64 0)::(fun _ v W=>Cw (fun _=>False) n2 62 7 v W)::(fun us _ W=>∃ g pv2 tv2 sv2 ts2,((us[1]?).getD undef)=.pointer (some ⟨g,0,none⟩)∧n2≤g∧W.heap[g]?=some (.cells #[.int .i64 s2.mp,.int .i64 s2.mt,.int .i64 s2.ms,.int .i64 s2.ml,pv2,tv2,sv2] 62 (0,0))∧DsB (fun k=>n2≤k) W s2 pv2 tv2 sv2 ts2)::[]) ([]::[0]::[1]::[2]::[]::[3,4]::[5]::[6]::[6]::[]::[7,9]::[]) (by kernel_rfl) (by kernel_rfl) (by rfl) (by kernel_rfl) (by kernel_rfl) Le.refl (fun _ _ _ h h'=>h.trans h') (fun _ _ _ h h'=>h.trans h') (fun _ _ h=>Nk.of_le h) ⟨StQ.is,StQ.is,StQ.is,StQ.is,StQ.is,(fun _ _ _ _ hb h=>Exists.elim h fun pv h=>Exists.elim h fun tv h=>Exists.elim h fun sv h=>Exists.elim h fun ts h=>⟨pv,tv,sv,ts,h.1,h.2.nk hb (by decide) (by decide) (by decide) (by decide)⟩),(fun _ _ _ _ hb h=>Exists.elim h fun pv h=>Exists.elim h fun tv h=>Exists.elim h fun sv h=>Exists.elim h fun ts h=>⟨pv,tv,sv,ts,h.1,h.2.nk hb (by decide) (by decide) (by decide) (by decide)⟩),(fun _ _ _ _ hb h=>Exists.elim h fun pv h=>Exists.elim h fun tv h=>Exists.elim h fun sv h=>Exists.elim h fun ts h=>⟨pv,tv,sv,ts,h.1,h.2.nk hb (by decide) (by decide) (by decide) (by decide)⟩),StQ.is,(fun _ _ _ _ hb h=>Cw.stay hb h),(fun _ _ _ _ hb h=>Exists.elim h fun g h=>Exists.elim h fun pv h=>Exists.elim h fun tv h=>Exists.elim h fun sv h=>Exists.elim h fun ts h=>⟨g,pv,tv,sv,ts,h.1,h.2.1,hb.heap h.2.2.1,h.2.2.2.le hb⟩),trivial⟩ ?m3
   case m3 =>
    simp (maxSteps:=100000000) only [AR,DU,Nat.reduceBEq,cond_true,cond_false,AU,AH,AE,B6,AD,Am,Au,Act.put,List.setIfInBounds_toArray,List.set_cons_succ,List.set_cons_zero,List.map_cons,List.getElem?_cons_zero,List.getElem?_cons_succ,Option.getD_some,List.map_nil,List.take_succ_cons,List.take_zero,List.drop_succ_cons,List.drop_zero,List.cons_append,List.nil_append,List.length_cons,List.length_nil,Nat.reduceAdd]
    intro x0 x1 x2 x3 x4 x5 x6 x7 x8 x9 x10
    refine⟨⟨?_,?_,?_,?_,?_,?_,?_,?_,?_,?_,?_,trivial⟩,?_⟩
    ·intro wo hw KQ hK;go_simp;exact hK _ _ .r .m
    ·intro wo hw h0 KQ hK;cases h0;go_simp;exact hK _ _ .r .m
    ·intro wo hw h1 KQ hK;cases h1;go_simp;exact hK _ _ .r .m
    ·intro wo hw h2 KQ hK;cases h2;refine cast (if_pos (show Region.wanted _ _=true from rfl)).symm ?_;have hz:=(hw.old' HC3.out HCN3.out);refine Cb 62 (.tmp 25) rfl [.int .i64 C.cf.shards,.int .i64 C.cf.intake,.int .i64 C.cf.window,.int .i64 C.cf.keep,.int .i64 C.s.mp,.int .i64 C.s.mt,.int .i64 C.s.ms,.int .i64 C.s.ml,.pointer (some ⟨X.ar,0,none⟩),.pointer (some ⟨X.pn,0,none⟩),.pointer (some ⟨X.bd,0,none⟩),.pointer (some ⟨X.iq,0,none⟩),.pointer (some ⟨X.sn,0,none⟩)] [.int .i64 C.s.mp,.int .i64 C.s.mt,.int .i64 C.s.ms,.int .i64 C.s.ml,X.pv,X.tv,X.sv] [Cp X.tb,.int .u32 C.ever,.map (some X.sm),X.wv] _ rfl Tryz.underlying62 rfl (by kernel_rfl) hz ?_;exact hK _ _ .r .m
    ·intro wo hw KQ hK;refine cast (if_pos (show Region.wanted _ _=true from rfl)).symm ?_;have hz:=(hw.old' HQ3.out HQN3.out);refine Av 31 (.tmp 3) rfl (cs:=[.int .i64 q.kind,.int .i64 q.who,.int .i64 q.room,.int .i64 q.rights,.int .i64 q.track,.slice A q.ssrcs.length cap,.int .i64 q.layer,.int .i64 q.tid]) _ rfl Tryz.underlying31 rfl (by kernel_rfl) hz ?_;exact hK _ _ .r .m
    ·intro wo hw h3 h4 KQ hK;cases h3;cases h4;go_simp;refine (do_any (HDS.out.le ((Le.refl w2).drew.trans (hw.le HN3.out))) HOK.out.fit.ok HOK.out.few HFRM.out q A cap (AI HCQ.out (HL2.out.trans (hw.le HN3.out))) HQL.out HCAP.out HAN.out).mono ?_;intro e w' hd;obtain⟨pv2,tv2,sv2,ts2,rfl,hds⟩:=hd.ok HE0.out;exact hK _ _ hd.le ⟨pv2,tv2,sv2,ts2,by rw[HS2.out];rfl,by rw[HS2.out];exact hds.mono fun k _ hk=>Nat.le_trans (Nat.le_trans HM3.out hw.size) hk⟩
    ·intro wo hw h5 KQ hK;obtain⟨pv2,tv2,sv2,ts2,rfl,hds⟩:=h5;go_simp;exact hK _ _ (Le.refl _) ⟨pv2,tv2,sv2,ts2,rfl,hds⟩
    ·intro wo hw h6 KQ hK;obtain⟨pv2,tv2,sv2,ts2,rfl,hds⟩:=h6;go_simp;exact hK _ _ (Le.refl _) ⟨pv2,tv2,sv2,ts2,rfl,hds⟩
    ·intro wo hw h6 KQ hK;obtain⟨pv2,tv2,sv2,ts2,rfl,hds⟩:=h6;go_simp;exact hK _ _ .r .m
    ·intro wo hw KQ hK;go_simp;exact hK _ _ ((Le.refl _).alloc _) (Cw.new (Nat.le_trans HM3.out hw.size) (fun _ h=>h.elim) rfl)
    ·intro wo hw h7 h9 KQ hK;obtain⟨pv2,tv2,sv2,ts2,rfl,hds⟩:=h7;obtain⟨xs,cs9,rfl,hB9,hA9,hh9,hz9⟩:=h9;refine cast (if_pos (show Region.wanted _ _=true from rfl)).symm ?_;have p1:=AF hds.hP;have p2:=AF hds.hT;have p3:=AF hds.hS;refine BD 62 (.tmp 6) (.tmp 29) rfl (cs:=[.int .i64 s2.mp,.int .i64 s2.mt,.int .i64 s2.ms,.int .i64 s2.ml,pv2,tv2,sv2]) rfl rfl (by kernel_rfl) (GM p1 p2 p3) hh9 hz9 ?_;intro w' h' hg';have hnk:=Nk.store (A:=fun _=>False) (φ:=fun _=>True) hg' hB9 hh9 h' hz9 rfl trivial;exact hK undef _ hnk ⟨xs,pv2,tv2,sv2,ts2,rfl,hB9,h',hds.nk hnk (by decide) (by decide) (by decide) (by decide)⟩
    ·intro wz hz h0 h1 h2 h3 h4 h5 h6 h7 h8 h9 h10;cases h0;cases h1;cases h2;cases h3;cases h4;obtain⟨pv2,tv2,sv2,ts2,rfl,hds⟩:=h5;obtain⟨pv2,tv2,sv2,ts2,rfl,hds⟩:=h6;obtain⟨pv2,tv2,sv2,ts2,rfl,hds⟩:=h7;cases h8;obtain⟨xs,cs9,rfl,hB9,hA9,hh9,hz9⟩:=h9;skip
     obtain⟨gx,pv2,tv2,sv2,ts2,hx9,hxs,HSB,hds2⟩:=h10
     cases hx9
     have hle3:=(Le.refl w2).drew.trans (hz.le HN3.out)
     have HT3:=Aa (HT2.out.trans (HT2.out.at_.st3 hle3 HNN.out xs))
     have HD3:=Aa ((hds2.avoid HSB (by decide) (by decide) (by decide) (by decide)).mono (M':=fun k=>tg (gSt G1 n2 xs) 7 k∧k<wz.heap.size) fun k hk e=>⟨gSt_new e.1 e.2,hk⟩)
     have HSB3:=Aa HSB
     have HQB3:=Aa (hle3.heap HQ2.out)
     have HXQ:=Aa (show gSt G1 n2 xs xq=0 from (GE _ HQN3.out.1).trans HX1.out)
     have HXS:=Aa (show gSt G1 n2 xs xs=0 from gSt_box hxs)
     clear hds hds2 HSB hle3 hxs HC3 HQ3 HL2 HN3 HM3 HCN3 HQN3 HNN HX1 HDS HP1 HP2 HP3 HT2 HQ2 HL2' hh9
     generalize gSt G1 n2 xs=G3 at *
     generalize wz=w3 at *
     clear hz
     have HC0:=Aa (Bj.same HT3.out.at_ (Le.refl w3))
     have kq0:=Af HQB3.out 0 (.int .i64 q.kind) rfl w3 (Le.refl _)
     go_upto_if 36 with fail
     go_cut [4] (fun s4 wx=>s4=.int .u64 0∧Hd (∃ p G6,Bj G3 w3 c X G6 wx X (C.pre (fun s=>(p,s)) q)∧DsB (tg G6 7) wx s2 pv2 tv2 sv2 ts2∧wx.heap[xs]?=some (.cells #[.int .i64 s2.mp,.int .i64 s2.mt,.int .i64 s2.ms,.int .i64 s2.ml,pv2,tv2,sv2] 62 (0,0))∧wx.heap[xq]?=some (.cells #[.int .i64 q.kind,.int .i64 q.who,.int .i64 q.room,.int .i64 q.rights,.int .i64 q.track,.slice A q.ssrcs.length cap,.int .i64 q.layer,.int .i64 q.tid] 31 (0,0))∧G6 xs=0∧G6 xq=0∧(q.kind=5→AN C.slots<C.slots.length)))
     case first =>
      by_cases hk5:q.kind=5
      ·have z5:(q.kind==5)=true:=by rw[beq_iff_eq];exact hk5
       have HK5:=Aa hk5
       rw[z5]
       clear hk5 z5
       obtain⟨rr,er,HRF0⟩:∃ (rr:Rf) (er:Int),Hd (∀ p,(AO C.slots (p,2147483648+C.ever)).2=(rr,er)):=⟨_,_,Aa fun p=>Iu _ _ (0,2147483648+C.ever)⟩
       have HEV:=HOK.out.ever
       have q8:IntKind.u32.wrap (2147483648+(C.ever:Int))=((2147483648+C.ever:Nat):Int):=by rw[IntWalk.u32_in _ (by omega)];omega
       have k21:=Af HC0.out.at_.hc 21 (.int .u32 C.ever) rfl w3 (Le.refl _)
       by_cases hf:AN C.slots<C.slots.length
       ·have HF:=Aa hf
        have HRF:=Aa (show ∀ p,(AO C.slots (p,2147483648+C.ever)).2=(rr,0) from fun p=>by
         have h1:=HRF0.out p
         have h2:=(Dx (l:=C.slots) (d:=(p,2147483648+C.ever))).2 hf
         rw[h1] at h2 ⊢
         rw[show er=0 from h2])
        clear hf HRF0
        generalize rr=r at *
        go_upto_region 8 with fail
        have HC8:=Aa (show w3.drew.heap[c]?=some (.cells #[.int .i64 C.cf.shards,.int .i64 C.cf.intake,.int .i64 C.cf.window,.int .i64 C.cf.keep,.int .i64 C.s.mp,.int .i64 C.s.mt,.int .i64 C.s.ms,.int .i64 C.s.ml,.pointer (some ⟨X.ar,0,none⟩),.pointer (some ⟨X.pn,0,none⟩),.pointer (some ⟨X.bd,0,none⟩),.pointer (some ⟨X.iq,0,none⟩),.pointer (some ⟨X.sn,0,none⟩),.int .i64 C.s.mp,.int .i64 C.s.mt,.int .i64 C.s.ms,.int .i64 C.s.ml,X.pv,X.tv,X.sv,Cp X.tb,.int .u32 C.ever,.map (some X.sm),X.wv] 156 (0,0)) from (Le.refl w3).drew.heap HC0.out.at_.hc)
        have HL38:=Aa (Le.refl w3).drew
        obtain⟨n3,hn3⟩:∃ n,n=w3.heap.size:=⟨_,rfl⟩
        have HNa:=Aa (show w3.drew.heap.size≤n3 from by rw[hn3];exact Nat.le_refl _)
        have HNb:=Aa (show n3≤w3.drew.heap.size from by rw[hn3];exact Nat.le_refl _)
        have HN8b:=Aa hn3.symm
        have HCT3:=HC0
        have HCN8:=Aa (show c<n3∧¬ (c<n3∧G3 c=2) from ⟨by rw[hn3];exact Ah HC0.out.at_.hc,fun e=>by have:=HC0.out.at_.gc;rw[e.2] at this;cases this⟩)
        have HXN:=Aa (show xs<n3∧xq<n3 from ⟨by rw[hn3];exact Ah HSB3.out,by rw[hn3];exact Ah HQB3.out⟩)
        clear hn3 k21
        refine' AB 11 17 12 43 (Nk (fun _=>False) n3 135 2 (fun x=>x=#[.int .i64 r.slot,.int .u32 r.turn])) (Nk (fun k=>k<n3∧G3 k=2) n3 135 2 (fun x=>x=#[.int .i64 r.slot,.int .u32 r.turn])) (IsD _::IsD _::IsD _::IsD _::IsD _::IsD _::IsD _::IsD _::IsD _::IsD _::(fun _ v W=>∃ p,v=.pointer (some ⟨p,0,none⟩)∧n3≤p∧EA W p (2147483648+C.ever))::(fun _ v W=>v=.tuple #[.agg #[.int .i64 r.slot,.int .u32 r.turn],.int .i64 0]∧∃ p,n3≤p∧EA W p (2147483648+C.ever)∧Bj G3 w3 c X (gDn G3 n3 p) W X { C with slots:=(AO C.slots (p,2147483648+C.ever)).1 }∧Fp (fun k=>k<n3∧G3 k=2) w3 W)::IsD _::IsD _::IsD _::(fun _ v W=>Cw (fun k=>k<n3∧G3 k=2) n3 135 2 v W)::(fun us _ W=>∃ g,((us[1]?).getD undef)=.pointer (some ⟨g,0,none⟩)∧n3≤g∧W.heap[g]?=some (.cells #[.int .i64 r.slot,.int .u32 r.turn] 135 (0,0)))::[]) ([]::[0]::[1]::[2]::[]::[]::[5]::[6]::[7]::[8]::[4,9]::[3,10]::[11]::[12]::[12]::[]::[13,15]::[]) (by kernel_rfl) (by kernel_rfl) (by rfl) (by kernel_rfl) (by kernel_rfl) Nk.refl (fun _ _ _ h h'=>h.trans h') (fun _ _ _ h h'=>h.trans h') (fun _ _ h=>h.mono fun _ e=>e.elim) ⟨StQ.is,StQ.is,StQ.is,StQ.is,StQ.is,StQ.is,StQ.is,StQ.is,StQ.is,StQ.is,(fun _ _ _ _ hb h=>Exists.elim h fun p h=>⟨p,h.1,h.2.1,EA.nk hb h.2.2 (by decide) (fun e=>absurd e.1 (by have:=h.2.1;omega))⟩),(fun _ _ _ _ hb h=>⟨h.1,Exists.elim h.2 fun p h=>⟨p,h.1,EA.nk hb h.2.1 (by decide) (fun e=>e),Bj.nk HN8b.out h.2.2.1 hb h.1 h.2.1 (by decide),Fp.nk HN8b.out h.2.2.2 hb⟩⟩),StQ.is,StQ.is,StQ.is,(fun _ _ _ _ hb h=>Cw.stay hb h),(fun _ _ _ _ hb h=>Exists.elim h fun g h=>⟨g,h.1,h.2.1,Nk.fill hb (fun e=>absurd e.1 (by have:=h.2.1;omega)) h.2.2⟩),trivial⟩ ?m8
        case m8 =>
         simp (maxSteps:=100000000) only [AR,DU,Nat.reduceBEq,cond_true,cond_false,AU,AH,AE,B6,AD,Am,Au,Act.put,List.setIfInBounds_toArray,List.set_cons_succ,List.set_cons_zero,List.map_cons,List.getElem?_cons_zero,List.getElem?_cons_succ,Option.getD_some,List.map_nil,List.take_succ_cons,List.take_zero,List.drop_succ_cons,List.drop_zero,List.cons_append,List.nil_append,List.length_cons,List.length_nil,Nat.reduceAdd]
         intro x0 x1 x2 x3 x4 x5 x6 x7 x8 x9 x10 x11 x12 x13 x14 x15 x16
         refine⟨⟨?_,?_,?_,?_,?_,?_,?_,?_,?_,?_,?_,?_,?_,?_,?_,?_,?_,trivial⟩,?_⟩
         ·intro wo hw KQ hK;go_simp;exact hK _ _ (Nk.refl _) (IsD.mk _ _ _)
         ·intro wo hw h0 KQ hK;cases h0;go_simp;exact hK _ _ (Nk.refl _) (IsD.mk _ _ _)
         ·intro wo hw h1 KQ hK;cases h1;go_simp;exact hK _ _ (Nk.refl _) (IsD.mk _ _ _)
         ·intro wo hw h2 KQ hK;cases h2;have kk:=Af (hw.old' HC8.out HCN8.out) 8 (.pointer (some ⟨X.ar,0,none⟩)) rfl wo (Le.refl _);go_simp;exact hK _ _ (Nk.refl _) (IsD.mk _ _ _)
         ·intro wo hw KQ hK;go_simp;exact hK _ _ (Nk.refl _) (IsD.mk _ _ _)
         ·intro wo hw KQ hK;go_simp;exact hK _ _ (Nk.refl _) (IsD.mk _ _ _)
         ·intro wo hw h5 KQ hK;cases h5;go_simp;exact hK _ _ (Nk.refl _) (IsD.mk _ _ _)
         ·intro wo hw h6 KQ hK;cases h6;go_simp;exact hK _ _ (Nk.refl _) (IsD.mk _ _ _)
         ·intro wo hw h7 KQ hK;cases h7;go_simp;exact hK _ _ (Nk.refl _) (IsD.mk _ _ _)
         ·intro wo hw h8 KQ hK;cases h8;have kk:=Af (hw.old' HC8.out HCN8.out) 3 (.int .i64 C.cf.keep) rfl wo (Le.refl _);go_simp;exact hK _ _ (Nk.refl _) (IsD.mk _ _ _)
         ·intro wo hw h4 h9 KQ hK;cases h4;cases h9;go_simp;refine (dnNew wo (2147483648+C.ever) C.cf.keep HOK.out.cf.2.2.1 HOK.out.cf.2.2.2).mono ?_;rintro e w' ⟨p,rfl,hl,hp,hd⟩;exact hK _ _ (Nk.of_le hl) ⟨p,rfl,Nat.le_trans (Nat.le_trans HNb.out hw.size) hp,hd⟩
         ·intro wo hw h3 h10 KQ hK;cases h3;obtain⟨p8,rfl,hp8,hd8⟩:=h10;go_simp;have hle8:=HL38.out.trans (hw.le HNa.out);refine (ctTake HCT3.out.at_ HN8b.out.symm hle8 hd8 hp8).mono ?_;rintro e w' ⟨rfl,hf,hc⟩;exact hK _ _ (Nk.of_fp hf) ⟨by rw[HRF.out p8],p8,hp8,EA.fp8 hd8 hf hp8,hc,(Fp.of_le hle8).trans hf⟩
         ·intro wo hw h11 KQ hK;obtain⟨rfl,HT8⟩:=h11;go_simp;exact hK _ _ (Nk.refl _) (IsD.mk _ _ _)
         ·intro wo hw h12 KQ hK;cases h12;go_simp;exact hK _ _ (Nk.refl _) (IsD.mk _ _ _)
         ·intro wo hw h12 KQ hK;cases h12;go_simp;exact hK _ _ (Nk.refl _) (IsD.mk _ _ _)
         ·intro wo hw KQ hK;go_simp;exact hK _ _ (Nk.of_le ((Le.refl _).alloc _)) (Cw.new (Nat.le_trans HNb.out hw.size) (fun _ h=>h.1) rfl)
         ·intro wo hw h13 h15 KQ hK;cases h13;obtain⟨xr,cs9,rfl,hB9,hA9,hh9,hz9⟩:=h15;refine cast (if_pos (show Region.wanted _ _=true from rfl)).symm ?_;refine BD 135 (.tmp 9) (.tmp 55) rfl (cs:=[.int .i64 r.slot,.int .u32 r.turn]) rfl rfl (by kernel_rfl) (by simp[Value.oneCell']) hh9 hz9 ?_;intro w' h' hg';exact hK undef _ (Nk.store hg' hB9 hh9 h' hz9 rfl rfl) ⟨xr,rfl,hB9,h'⟩
         ·intro wz hz h0 h1 h2 h3 h4 h5 h6 h7 h8 h9 h10 h11 h12 h13 h14 h15 h16;cases h0;cases h1;cases h2;cases h3;cases h4;cases h5;cases h6;cases h7;cases h8;cases h9;obtain⟨p8,rfl,hp8,hd8⟩:=h10;obtain⟨rfl,HT8⟩:=h11;cases h12;cases h13;cases h14;obtain⟨xr,cs9,rfl,hB9,hA9,hh9,hz9⟩:=h15;skip
          obtain⟨p,hp,hd,hct,hfp⟩:=HT8
          obtain⟨gx,hx9,hxr,hRB⟩:=h16
          cases hx9
          have HT9:=Aa hct
          have HD9:=Aa ((HD3.out.mono (M':=tg G3 7) (fun k _ e=>e.1)).re (G:=gDn G3 n3 p) hfp (fun k hk=>by rw[hk.2];decide) (fun k hk=>CV k (by rw[← HN8b.out];exact hk)))
          have HS9:=Aa (hfp.heap HSB3.out (fun e=>by have:=e.2;rw[HXS.out] at this;cases this))
          have HQ9:=Aa (hfp.heap HQB3.out (fun e=>by have:=e.2;rw[HXQ.out] at this;cases this))
          have HR9:=Aa hRB
          have HXS9:=Aa (show gDn G3 n3 p xs=0 from (CV _ HXN.out.1).trans HXS.out)
          have HXQ9:=Aa (show gDn G3 n3 p xq=0 from (CV _ HXN.out.2).trans HXQ.out)
          have HCN9:=Aa (show c≠xr from fun e=>by have:=HCN8.out.1;omega)
          clear hp hd hct hfp hRB hxr HC8 HL38 HNa HNb HN8b HCT3 HCN8 hz hh9
          generalize gDn G3 n3 p=G9 at *
          generalize wz=w9 at *
          have k21:=Af HT9.out.at_.hc 21 (.int .u32 C.ever) rfl w9 (Le.refl _)
          have q11:IntKind.u32.wrap ((C.ever:Int)+1)=((C.ever+1:Nat):Int):=by rw[IntWalk.u32_in _ (by omega)];simp
          have HC9:=Aa (show w9.heap[c]?=some (.cells #[.int .i64 C.cf.shards,.int .i64 C.cf.intake,.int .i64 C.cf.window,.int .i64 C.cf.keep,.int .i64 C.s.mp,.int .i64 C.s.mt,.int .i64 C.s.ms,.int .i64 C.s.ml,.pointer (some ⟨X.ar,0,none⟩),.pointer (some ⟨X.pn,0,none⟩),.pointer (some ⟨X.bd,0,none⟩),.pointer (some ⟨X.iq,0,none⟩),.pointer (some ⟨X.sn,0,none⟩),.int .i64 C.s.mp,.int .i64 C.s.mt,.int .i64 C.s.ms,.int .i64 C.s.ml,X.pv,X.tv,X.sv,Cp X.tb,.int .u32 C.ever,.map (some X.sm),X.wv] 156 (0,0)) from HT9.out.at_.hc)
          have HNS:=Aa (show xs≠c∧xq≠c from ⟨(fun e=>by have:=HT9.out.at_.gc;rw[← e,HXS9.out] at this;cases this),(fun e=>by have:=HT9.out.at_.gc;rw[← e,HXQ9.out] at this;cases this)⟩)
          go_upto_region 12 with (refine Ao rfl 110 (.tmp 65) (.tmp 63) rfl [.int .i64 C.cf.shards,.int .i64 C.cf.intake,.int .i64 C.cf.window,.int .i64 C.cf.keep,.int .i64 C.s.mp,.int .i64 C.s.mt,.int .i64 C.s.ms,.int .i64 C.s.ml,.pointer (some ⟨X.ar,0,none⟩),.pointer (some ⟨X.pn,0,none⟩),.pointer (some ⟨X.bd,0,none⟩),.pointer (some ⟨X.iq,0,none⟩),.pointer (some ⟨X.sn,0,none⟩),.int .i64 C.s.mp,.int .i64 C.s.mt,.int .i64 C.s.ms,.int .i64 C.s.ml,X.pv,X.tv,X.sv,Cp X.tb] (v:=.int .u32 ((C.ever+1:Nat):Int)) (old:=.int .u32 C.ever) (post:=[.map (some X.sm),X.wv]) rfl rfl (by kernel_rfl) rfl HC9.out ?_;intro w5 h5 hg5;have HT5:=Aa (HT9.out.trans (HT9.out.at_.setEver hg5 (C.ever+1) h5));have HD5:=Aa (HD9.out.re (G:=G9) (Fp.of_grown (S:=fun k=>k=c) hg5 rfl) (fun k hk=>by rw[hk,HT9.out.at_.gc];decide) (fun _ _=>rfl));have HS5:=Aa ((Fp.of_grown (S:=fun k=>k=c) hg5 rfl).heap HS9.out HNS.out.1);have HQ5:=Aa ((Fp.of_grown (S:=fun k=>k=c) hg5 rfl).heap HQ9.out HNS.out.2);have HR5:=Aa ((Fp.of_grown (S:=fun k=>k=c) hg5 rfl).heap HR9.out (Ne.symm HCN9.out));clear h5 hg5 k21)
          have HCd:=Aa (show w5.drew.heap[c]?=some (.cells #[.int .i64 C.cf.shards,.int .i64 C.cf.intake,.int .i64 C.cf.window,.int .i64 C.cf.keep,.int .i64 C.s.mp,.int .i64 C.s.mt,.int .i64 C.s.ms,.int .i64 C.s.ml,.pointer (some ⟨X.ar,0,none⟩),.pointer (some ⟨X.pn,0,none⟩),.pointer (some ⟨X.bd,0,none⟩),.pointer (some ⟨X.iq,0,none⟩),.pointer (some ⟨X.sn,0,none⟩),.int .i64 C.s.mp,.int .i64 C.s.mt,.int .i64 C.s.ms,.int .i64 C.s.ml,X.pv,X.tv,X.sv,Cp X.tb,.int .u32 ((C.ever+1:Nat):Int),.map (some X.sm),X.wv] 156 (0,0)) from (Le.refl w5).drew.heap HT5.out.at_.hc)
          have HQd:=Aa ((Le.refl w5).drew.heap HQ5.out)
          have HRd:=Aa ((Le.refl w5).drew.heap HR5.out)
          clear HT9 HD9 HS9 HQ9 HR9 HC9
          refine' Aj 12 12 66 Le (Is _::Is _::Is _::Is _::Is _::Is _::Is _::Is _::Is _::Is _::Is _::Is _::[]) ([]::[0]::[1]::[2]::[]::[4]::[]::[6]::[5,7]::[]::[]::[9,10]::[]) (by kernel_rfl) (by kernel_rfl) (by rfl) (by kernel_rfl) (by kernel_rfl) Le.refl (fun _ _ _ h h'=>h.trans h') ⟨St.is,St.is,St.is,St.is,St.is,St.is,St.is,St.is,St.is,St.is,St.is,St.is,trivial⟩ ?m12
          case m12 =>
           simp (maxSteps:=100000000) only [AR,Bv,AK,AC,An,AD,Am,Au,List.set_cons_succ,List.set_cons_zero,List.getElem?_cons_zero,List.getElem?_cons_succ,List.take_succ_cons,List.take_zero,List.drop_succ_cons,List.drop_zero,List.cons_append,List.nil_append,List.length_cons,List.length_nil,Nat.reduceAdd]
           intro x0 x1 x2 x3 x4 x5 x6 x7 x8 x9 x10 x11
           refine⟨⟨?_,?_,?_,?_,?_,?_,?_,?_,?_,?_,?_,?_,trivial⟩,?_⟩
           ·intro wo hw KQ hK;go_simp;exact hK _ _ .r .m
           ·intro wo hw h0 KQ hK;cases h0;go_simp;exact hK _ _ .r .m
           ·intro wo hw h1 KQ hK;cases h1;go_simp;exact hK _ _ .r .m
           ·intro wo hw h2 KQ hK;cases h2;have kk:=Af (hw.heap HCd.out) 22 (.map (some X.sm)) rfl wo (Le.refl _);go_simp;exact hK _ _ .r .m
           ·intro wo hw KQ hK;go_simp;exact hK _ _ .r .m
           ·intro wo hw h4 KQ hK;cases h4;have kk:=Af (hw.heap HQd.out) 1 (.int .i64 q.who) rfl wo (Le.refl _);go_simp;exact hK _ _ .r .m
           ·intro wo hw KQ hK;go_simp;exact hK _ _ .r .m
           ·intro wo hw h6 KQ hK;cases h6;have kk:=Af (hw.heap HQd.out) 4 (.int .i64 q.track) rfl wo (Le.refl _);go_simp;exact hK _ _ .r .m
           ·intro wo hw h5 h7 KQ hK;cases h5;cases h7;go_simp;exact hK _ _ .r .m
           ·intro wo hw KQ hK;refine cast (if_pos (show Region.wanted _ _=true from rfl)).symm ?_;have hz:=(hw.heap HRd.out);refine Av 135 (.tmp 9) rfl (cs:=[.int .i64 r.slot,.int .u32 r.turn]) _ rfl Tryz.underlying135 rfl (by kernel_rfl) hz ?_;exact hK _ _ .r .m
           ·intro wo hw KQ hK;go_simp;exact hK _ _ .r .m
           ·intro wo hw h9 h10 KQ hK;cases h9;cases h10;go_simp;exact hK _ _ .r .m
           ·intro wz hz h0 h1 h2 h3 h4 h5 h6 h7 h8 h9 h10 h11;cases h0;cases h1;cases h2;cases h3;cases h4;cases h5;cases h6;cases h7;cases h8;cases h9;cases h10;cases h11;skip
            have hle:=(Le.refl w5).drew.trans hz
            have HT6:=Aa (HT5.out.le hle)
            have HW6:=five_wf HOK.out HK5.out HE0.out
            obtain⟨w6,hr6,hf6,hc6⟩:=HT6.out.at_.putSeat (by have:=HOK.out.sl.nw;show C.seats.length≤1000;omega) (who:=q.who) (track:=q.track) (CL (by omega) (by omega)) (CL (by omega) (by omega)) (HOK.out.new_key HK5.out HE0.out) r (2147483648+C.ever)
            have HC6:=Aa (HT6.out.trans hc6)
            have HD6:=Aa (HD5.out.re (G:=G9) ((Fp.of_le hle).trans hf6) (fun k hk=>by rw[hk,HT6.out.at_.sm.2];decide) (fun _ _=>rfl))
            have HS6:=Aa (hf6.heap (hle.heap HS5.out) (fun e=>by have:=HT6.out.at_.sm.2;rw[← e,HXS9.out] at this;cases this))
            have HQ6:=Aa (hf6.heap (hle.heap HQ5.out) (fun e=>by have:=HT6.out.at_.sm.2;rw[← e,HXQ9.out] at this;cases this))
            clear hle hf6 hc6 HW6 hz HCd HQd HRd
            go_wp2_with (refine BB (vm:=.map (some X.sm)) (vy:=Hy (q.who,q.track)) (vx:=FV ⟨q.who,q.track,r,2147483648+C.ever⟩) rfl (.tmp 69) (.tmp 74) (.tmp 77) rfl rfl rfl rfl hr6 ?_;clear hr6)
            go_meet
            refine⟨rfl,Aa ⟨p,G9,?_,HD6.out,HS6.out,HQ6.out,HXS9.out,HXQ9.out,fun _=>HF.out⟩⟩
            rw[Ct.pre,if_pos HK5.out,show (AO C.slots (p,2147483648+C.ever)).2.1=r by rw[HRF.out p]]
            exact HC6.out
       ·have HF:=Aa hf
        have HRF:=Aa (show ∀ p,(AO C.slots (p,2147483648+C.ever)).2=(rr,20) from fun p=>by
         have h1:=HRF0.out p
         have h2:(AO C.slots (p,2147483648+C.ever)).2=(⟨0,0⟩,20):=by rw[AO,if_neg hf]
         rw[h1] at h2 ⊢
         injection h2 with _ h2
         rw[h2])
        clear hf HRF0
        generalize rr=r at *
        go_upto_region 8 with fail
        have HC8:=Aa (show w3.drew.heap[c]?=some (.cells #[.int .i64 C.cf.shards,.int .i64 C.cf.intake,.int .i64 C.cf.window,.int .i64 C.cf.keep,.int .i64 C.s.mp,.int .i64 C.s.mt,.int .i64 C.s.ms,.int .i64 C.s.ml,.pointer (some ⟨X.ar,0,none⟩),.pointer (some ⟨X.pn,0,none⟩),.pointer (some ⟨X.bd,0,none⟩),.pointer (some ⟨X.iq,0,none⟩),.pointer (some ⟨X.sn,0,none⟩),.int .i64 C.s.mp,.int .i64 C.s.mt,.int .i64 C.s.ms,.int .i64 C.s.ml,X.pv,X.tv,X.sv,Cp X.tb,.int .u32 C.ever,.map (some X.sm),X.wv] 156 (0,0)) from (Le.refl w3).drew.heap HC0.out.at_.hc)
        have HL38:=Aa (Le.refl w3).drew
        obtain⟨n3,hn3⟩:∃ n,n=w3.heap.size:=⟨_,rfl⟩
        have HNa:=Aa (show w3.drew.heap.size≤n3 from by rw[hn3];exact Nat.le_refl _)
        have HNb:=Aa (show n3≤w3.drew.heap.size from by rw[hn3];exact Nat.le_refl _)
        have HN8b:=Aa hn3.symm
        have HCT3:=HC0
        have HCN8:=Aa (show c<n3∧¬ (c<n3∧G3 c=2) from ⟨by rw[hn3];exact Ah HC0.out.at_.hc,fun e=>by have:=HC0.out.at_.gc;rw[e.2] at this;cases this⟩)
        have HXN:=Aa (show xs<n3∧xq<n3 from ⟨by rw[hn3];exact Ah HSB3.out,by rw[hn3];exact Ah HQB3.out⟩)
        clear hn3 k21
        refine' AB 11 17 12 43 (Nk (fun _=>False) n3 135 2 (fun x=>x=#[.int .i64 r.slot,.int .u32 r.turn])) (Nk (fun k=>k<n3∧G3 k=2) n3 135 2 (fun x=>x=#[.int .i64 r.slot,.int .u32 r.turn])) (IsD _::IsD _::IsD _::IsD _::IsD _::IsD _::IsD _::IsD _::IsD _::IsD _::(fun _ v W=>∃ p,v=.pointer (some ⟨p,0,none⟩)∧n3≤p∧EA W p (2147483648+C.ever))::(fun _ v W=>v=.tuple #[.agg #[.int .i64 r.slot,.int .u32 r.turn],.int .i64 20]∧∃ p,n3≤p∧EA W p (2147483648+C.ever)∧Bj G3 w3 c X (gDn G3 n3 p) W X { C with slots:=(AO C.slots (p,2147483648+C.ever)).1 }∧Fp (fun k=>k<n3∧G3 k=2) w3 W)::IsD _::IsD _::IsD _::(fun _ v W=>Cw (fun k=>k<n3∧G3 k=2) n3 135 2 v W)::(fun us _ W=>∃ g,((us[1]?).getD undef)=.pointer (some ⟨g,0,none⟩)∧n3≤g∧W.heap[g]?=some (.cells #[.int .i64 r.slot,.int .u32 r.turn] 135 (0,0)))::[]) ([]::[0]::[1]::[2]::[]::[]::[5]::[6]::[7]::[8]::[4,9]::[3,10]::[11]::[12]::[12]::[]::[13,15]::[]) (by kernel_rfl) (by kernel_rfl) (by rfl) (by kernel_rfl) (by kernel_rfl) Nk.refl (fun _ _ _ h h'=>h.trans h') (fun _ _ _ h h'=>h.trans h') (fun _ _ h=>h.mono fun _ e=>e.elim) ⟨StQ.is,StQ.is,StQ.is,StQ.is,StQ.is,StQ.is,StQ.is,StQ.is,StQ.is,StQ.is,(fun _ _ _ _ hb h=>Exists.elim h fun p h=>⟨p,h.1,h.2.1,EA.nk hb h.2.2 (by decide) (fun e=>absurd e.1 (by have:=h.2.1;omega))⟩),(fun _ _ _ _ hb h=>⟨h.1,Exists.elim h.2 fun p h=>⟨p,h.1,EA.nk hb h.2.1 (by decide) (fun e=>e),Bj.nk HN8b.out h.2.2.1 hb h.1 h.2.1 (by decide),Fp.nk HN8b.out h.2.2.2 hb⟩⟩),StQ.is,StQ.is,StQ.is,(fun _ _ _ _ hb h=>Cw.stay hb h),(fun _ _ _ _ hb h=>Exists.elim h fun g h=>⟨g,h.1,h.2.1,Nk.fill hb (fun e=>absurd e.1 (by have:=h.2.1;omega)) h.2.2⟩),trivial⟩ ?m8
        case m8 =>
         simp (maxSteps:=100000000) only [AR,DU,Nat.reduceBEq,cond_true,cond_false,AU,AH,AE,B6,AD,Am,Au,Act.put,List.setIfInBounds_toArray,List.set_cons_succ,List.set_cons_zero,List.map_cons,List.getElem?_cons_zero,List.getElem?_cons_succ,Option.getD_some,List.map_nil,List.take_succ_cons,List.take_zero,List.drop_succ_cons,List.drop_zero,List.cons_append,List.nil_append,List.length_cons,List.length_nil,Nat.reduceAdd]
         intro x0 x1 x2 x3 x4 x5 x6 x7 x8 x9 x10 x11 x12 x13 x14 x15 x16
         refine⟨⟨?_,?_,?_,?_,?_,?_,?_,?_,?_,?_,?_,?_,?_,?_,?_,?_,?_,trivial⟩,?_⟩
         ·intro wo hw KQ hK;go_simp;exact hK _ _ (Nk.refl _) (IsD.mk _ _ _)
         ·intro wo hw h0 KQ hK;cases h0;go_simp;exact hK _ _ (Nk.refl _) (IsD.mk _ _ _)
         ·intro wo hw h1 KQ hK;cases h1;go_simp;exact hK _ _ (Nk.refl _) (IsD.mk _ _ _)
         ·intro wo hw h2 KQ hK;cases h2;have kk:=Af (hw.old' HC8.out HCN8.out) 8 (.pointer (some ⟨X.ar,0,none⟩)) rfl wo (Le.refl _);go_simp;exact hK _ _ (Nk.refl _) (IsD.mk _ _ _)
         ·intro wo hw KQ hK;go_simp;exact hK _ _ (Nk.refl _) (IsD.mk _ _ _)
         ·intro wo hw KQ hK;go_simp;exact hK _ _ (Nk.refl _) (IsD.mk _ _ _)
         ·intro wo hw h5 KQ hK;cases h5;go_simp;exact hK _ _ (Nk.refl _) (IsD.mk _ _ _)
         ·intro wo hw h6 KQ hK;cases h6;go_simp;exact hK _ _ (Nk.refl _) (IsD.mk _ _ _)
         ·intro wo hw h7 KQ hK;cases h7;go_simp;exact hK _ _ (Nk.refl _) (IsD.mk _ _ _)
         ·intro wo hw h8 KQ hK;cases h8;have kk:=Af (hw.old' HC8.out HCN8.out) 3 (.int .i64 C.cf.keep) rfl wo (Le.refl _);go_simp;exact hK _ _ (Nk.refl _) (IsD.mk _ _ _)
         ·intro wo hw h4 h9 KQ hK;cases h4;cases h9;go_simp;refine (dnNew wo (2147483648+C.ever) C.cf.keep HOK.out.cf.2.2.1 HOK.out.cf.2.2.2).mono ?_;rintro e w' ⟨p,rfl,hl,hp,hd⟩;exact hK _ _ (Nk.of_le hl) ⟨p,rfl,Nat.le_trans (Nat.le_trans HNb.out hw.size) hp,hd⟩
         ·intro wo hw h3 h10 KQ hK;cases h3;obtain⟨p8,rfl,hp8,hd8⟩:=h10;go_simp;have hle8:=HL38.out.trans (hw.le HNa.out);refine (ctTake HCT3.out.at_ HN8b.out.symm hle8 hd8 hp8).mono ?_;rintro e w' ⟨rfl,hf,hc⟩;exact hK _ _ (Nk.of_fp hf) ⟨by rw[HRF.out p8],p8,hp8,EA.fp8 hd8 hf hp8,hc,(Fp.of_le hle8).trans hf⟩
         ·intro wo hw h11 KQ hK;obtain⟨rfl,HT8⟩:=h11;go_simp;exact hK _ _ (Nk.refl _) (IsD.mk _ _ _)
         ·intro wo hw h12 KQ hK;cases h12;go_simp;exact hK _ _ (Nk.refl _) (IsD.mk _ _ _)
         ·intro wo hw h12 KQ hK;cases h12;go_simp;exact hK _ _ (Nk.refl _) (IsD.mk _ _ _)
         ·intro wo hw KQ hK;go_simp;exact hK _ _ (Nk.of_le ((Le.refl _).alloc _)) (Cw.new (Nat.le_trans HNb.out hw.size) (fun _ h=>h.1) rfl)
         ·intro wo hw h13 h15 KQ hK;cases h13;obtain⟨xr,cs9,rfl,hB9,hA9,hh9,hz9⟩:=h15;refine cast (if_pos (show Region.wanted _ _=true from rfl)).symm ?_;refine BD 135 (.tmp 9) (.tmp 55) rfl (cs:=[.int .i64 r.slot,.int .u32 r.turn]) rfl rfl (by kernel_rfl) (by simp[Value.oneCell']) hh9 hz9 ?_;intro w' h' hg';exact hK undef _ (Nk.store hg' hB9 hh9 h' hz9 rfl rfl) ⟨xr,rfl,hB9,h'⟩
         ·intro wz hz h0 h1 h2 h3 h4 h5 h6 h7 h8 h9 h10 h11 h12 h13 h14 h15 h16;cases h0;cases h1;cases h2;cases h3;cases h4;cases h5;cases h6;cases h7;cases h8;cases h9;obtain⟨p8,rfl,hp8,hd8⟩:=h10;obtain⟨rfl,HT8⟩:=h11;cases h12;cases h13;cases h14;obtain⟨xr,cs9,rfl,hB9,hA9,hh9,hz9⟩:=h15;skip
          obtain⟨p,hp,hd,hct,hfp⟩:=HT8
          have es:(AO C.slots (p,2147483648+C.ever)).1=C.slots:=by rw[AO,if_neg HF.out]
          rw[es] at hct
          have HT9:=Aa (HT3.out.trans hct)
          clear hct hfp es
          go_wp2_with fail
          rw[HR.out]
          refine⟨0,gDn G3 n3 p,X,?_,?_⟩
          ·rw[Gk HROOM.out HE0.out HK5.out HF.out];rfl
          ·rw[Gk HROOM.out HE0.out HK5.out HF.out]
           exact HT9.out
      ·have z5:(q.kind==5)=false:=by rw[beq_eq_false_iff_ne];exact hk5
       have HK5:=Aa hk5
       rw[z5]
       clear hk5 z5
       go_wp2_with fail
       go_meet
       exact⟨rfl,Aa ⟨0,G3,by rw[Ct.pre,if_neg HK5.out];exact HC0.out,HD3.out.mono fun k _ e=>e.1,HSB3.out,HQB3.out,HXS.out,HXQ.out,fun e=>absurd e HK5.out⟩⟩
     obtain⟨rfl,hcut⟩:=hcut
     obtain⟨p,G6,hT6,hD6,hS6,hQ6,hx6,hy6,hf6⟩:=hcut.out
     generalize wc=w6 at *
     have HPRE:=Aa (do_pre (mk:=fun s=>(p,s)) HROOM.out HE0.out hf6)
     have hmid:=HOK.out.mid p HE0.out hf6
     rw[← HS2.out] at hmid HPRE
     have hps:=pre_s (C:=C) (mk:=fun s=>(p,s)) (q:=q)
     obtain⟨C1,hC1⟩:∃ C1,C1=C.pre (fun s=>(p,s)) q:=⟨_,rfl⟩
     rw[← hC1] at hT6 hmid hps
     have HC1:=Aa hC1
     have HMID:=Aa hmid
     have HT6:=Aa hT6
     have HD6:=Aa hD6
     have HS6:=Aa hS6
     have HQ6:=Aa hQ6
     have HXS6:=Aa hx6
     have HXQ6:=Aa hy6
     have HN1:=Aa (show C1.s.subs.length≤1000 by rw[hps.1];have:=(lens HOK.out.fit.ok HOK.out.few).2.2;omega)
     have HFW1:=Aa (show C1.s.Few by rw[hps.1];exact HOK.out.few)
     have HB1:=Aa (show C1.board.hasRoom=true by rw[hps.2.1];exact HROOM.out)
     have HSZ:=Aa (show s2.mp=C1.s.mp∧s2.mt=C1.s.mt∧s2.ms=C1.s.ms∧s2.ml=C1.s.ml by rw[hps.1,HS2.out];exact DS.do_size q)
     have HG0:=Aa (show q.kind=0→C1.s.gone s2=[] from fun hk=>by rw[hps.1,HS2.out];exact FM hk _)
     clear hC1 hmid hT6 hD6 hS6 hQ6 hx6 hy6 hf6 hcut hps HC0 HD3 HSB3 HQB3 HXQ HXS kq0
     go_upto_region 13 with fail
     obtain⟨ts1,hd1⟩:=HT6.out.at_.st
     have HD1:=Aa hd1
     clear hd1
     have HC13:=Aa (show w6.drew.heap[c]?=some (.cells #[.int .i64 C1.cf.shards,.int .i64 C1.cf.intake,.int .i64 C1.cf.window,.int .i64 C1.cf.keep,.int .i64 C1.s.mp,.int .i64 C1.s.mt,.int .i64 C1.s.ms,.int .i64 C1.s.ml,.pointer (some ⟨X.ar,0,none⟩),.pointer (some ⟨X.pn,0,none⟩),.pointer (some ⟨X.bd,0,none⟩),.pointer (some ⟨X.iq,0,none⟩),.pointer (some ⟨X.sn,0,none⟩),.int .i64 C1.s.mp,.int .i64 C1.s.mt,.int .i64 C1.s.ms,.int .i64 C1.s.ml,X.pv,X.tv,X.sv,Cp X.tb,.int .u32 C1.ever,.map (some X.sm),X.wv] 156 (0,0)) from (Le.refl w6).drew.heap HT6.out.at_.hc)
     have HS13:=Aa ((Le.refl w6).drew.heap HS6.out)
     have HL13:=Aa (Le.refl w6).drew
     refine' AW 6 6 78 Le (IsD _::IsD _::IsD _::IsD _::IsD _::(fun _ v W=>AA (fun k=>w6.heap.size≤k) W 133 5 v ((C1.s.gone s2).map BC))::[]) ([]::[0]::[1]::[2]::[]::[3,4]::[]) (by kernel_rfl) (by kernel_rfl) (by rfl) (by kernel_rfl) (by kernel_rfl) Le.refl (fun _ _ _ h h'=>h.trans h') ⟨StD.is,StD.is,StD.is,StD.is,StD.is,(fun _ _ _ _ hb h=>h.le hb),trivial⟩ ?m13
     case m13 =>
      simp (maxSteps:=100000000) only [AR,Hr,AU,AH,AE,B6,AD,Am,Au,List.set_cons_succ,List.set_cons_zero,List.map_cons,List.getElem?_cons_zero,List.getElem?_cons_succ,Option.getD_some,List.map_nil,List.take_succ_cons,List.take_zero,List.drop_succ_cons,List.drop_zero,List.cons_append,List.nil_append,List.length_cons,List.length_nil,Nat.reduceAdd]
      intro x0 x1 x2 x3 x4 x5
      refine⟨⟨?_,?_,?_,?_,?_,?_,trivial⟩,?_⟩
      ·intro wo hw KQ hK;go_simp;exact hK _ _ .r .m
      ·intro wo hw h0 KQ hK;cases h0;go_simp;exact hK _ _ .r .m
      ·intro wo hw h1 KQ hK;cases h1;go_simp;exact hK _ _ .r .m
      ·intro wo hw h2 KQ hK;cases h2;refine cast (if_pos (show Region.wanted _ _=true from rfl)).symm ?_;have hz:=(hw.heap HC13.out);refine Cb 62 (.tmp 80) rfl [.int .i64 C1.cf.shards,.int .i64 C1.cf.intake,.int .i64 C1.cf.window,.int .i64 C1.cf.keep,.int .i64 C1.s.mp,.int .i64 C1.s.mt,.int .i64 C1.s.ms,.int .i64 C1.s.ml,.pointer (some ⟨X.ar,0,none⟩),.pointer (some ⟨X.pn,0,none⟩),.pointer (some ⟨X.bd,0,none⟩),.pointer (some ⟨X.iq,0,none⟩),.pointer (some ⟨X.sn,0,none⟩)] [.int .i64 C1.s.mp,.int .i64 C1.s.mt,.int .i64 C1.s.ms,.int .i64 C1.s.ml,X.pv,X.tv,X.sv] [Cp X.tb,.int .u32 C1.ever,.map (some X.sm),X.wv] _ rfl Tryz.underlying62 rfl (by kernel_rfl) hz ?_;exact hK _ _ .r .m
      ·intro wo hw KQ hK;refine cast (if_pos (show Region.wanted _ _=true from rfl)).symm ?_;have hz:=(hw.heap HS13.out);refine Av 62 (.tmp 6) rfl (cs:=[.int .i64 s2.mp,.int .i64 s2.mt,.int .i64 s2.ms,.int .i64 s2.ml,pv2,tv2,sv2]) _ rfl Tryz.underlying62 rfl (by kernel_rfl) hz ?_;exact hK _ _ .r .m
      ·intro wo hw h3 h4 KQ hK;cases h3;cases h4;go_simp;refine (gone_any (HD1.out.le (HL13.out.trans hw)) HN1.out (HD6.out.le (HL13.out.trans hw)) HMID.out.fit.ok HMID.out.few).mono ?_;rintro e w' ⟨v,rfl,ho,hb⟩;exact hK _ _ hb (ho.mono fun k _ hk=>Nat.le_trans (HL13.out.trans hw).size hk)
      ·intro wz hz h0 h1 h2 h3 h4 h5;cases h0;cases h1;cases h2;cases h3;cases h4;skip
       obtain⟨Ag,cg,hgv,_,_,_⟩:=h5.cells
       rw[List.length_map] at hgv
       subst hgv
       have hle:=(Le.refl w6).drew.trans hz
       have HT7:=Aa (HT6.out.trans (HT6.out.at_.re 0 hle))
       have HG7:=Aa (h5.mono (M':=fun k=>Bn G6 w6.heap.size 0 k=0) fun k _ hk=>AM hk)
       have HD7:=Aa (HD6.out.re (G:=Bn G6 w6.heap.size 0) (S:=fun _=>False) (Fp.of_le hle) (fun _ h=>h.elim) Az)
       have HS7:=Aa (hle.heap HS6.out)
       have HQ7:=Aa (hle.heap HQ6.out)
       have HXS7:=Aa (show Bn G6 w6.heap.size 0 xs=0 from (Az _ (Ah HS6.out)).trans HXS6.out)
       have HXQ7:=Aa (show Bn G6 w6.heap.size 0 xq=0 from (Az _ (Ah HQ6.out)).trans HXQ6.out)
       clear hle hz h5 HT6 HD6 HS6 HQ6 HXS6 HXQ6 HC13 HS13 HL13 HD1 HN1
       generalize Bn G6 w6.heap.size 0=G7 at *
       generalize wz=w7 at *
       have HC7:=Aa (show w7.heap[c]?=some (.cells #[.int .i64 C1.cf.shards,.int .i64 C1.cf.intake,.int .i64 C1.cf.window,.int .i64 C1.cf.keep,.int .i64 C1.s.mp,.int .i64 C1.s.mt,.int .i64 C1.s.ms,.int .i64 C1.s.ml,.pointer (some ⟨X.ar,0,none⟩),.pointer (some ⟨X.pn,0,none⟩),.pointer (some ⟨X.bd,0,none⟩),.pointer (some ⟨X.iq,0,none⟩),.pointer (some ⟨X.sn,0,none⟩),.int .i64 C1.s.mp,.int .i64 C1.s.mt,.int .i64 C1.s.ms,.int .i64 C1.s.ml,X.pv,X.tv,X.sv,Cp X.tb,.int .u32 C1.ever,.map (some X.sm),X.wv] 156 (0,0)) from HT7.out.at_.hc)
       have HNC:=Aa (show xq≠c from fun e=>by have:=HT7.out.at_.gc;rw[← e,HXQ7.out] at this;cases this)
       have p1:=AF HD7.out.hP
       have p2:=AF HD7.out.hT
       have p3:=AF HD7.out.hS
       go_upto_region 15 with (first | (refine Al rfl 62 (.tmp 6) rfl (cs:=[.int .i64 s2.mp,.int .i64 s2.mt,.int .i64 s2.ms,.int .i64 s2.ml,pv2,tv2,sv2]) _ rfl Tryz.underlying62 rfl (by kernel_rfl) HS7.out ?_) | (refine Bc rfl 62 (.tmp 87) (.tmp 85) rfl [.int .i64 C1.cf.shards,.int .i64 C1.cf.intake,.int .i64 C1.cf.window,.int .i64 C1.cf.keep,.int .i64 C1.s.mp,.int .i64 C1.s.mt,.int .i64 C1.s.ms,.int .i64 C1.s.ml,.pointer (some ⟨X.ar,0,none⟩),.pointer (some ⟨X.pn,0,none⟩),.pointer (some ⟨X.bd,0,none⟩),.pointer (some ⟨X.iq,0,none⟩),.pointer (some ⟨X.sn,0,none⟩)] (cs:=[.int .i64 s2.mp,.int .i64 s2.mt,.int .i64 s2.ms,.int .i64 s2.ml,pv2,tv2,sv2]) (old:=[.int .i64 C1.s.mp,.int .i64 C1.s.mt,.int .i64 C1.s.ms,.int .i64 C1.s.ml,X.pv,X.tv,X.sv]) (post:=[Cp X.tb,.int .u32 C1.ever,.map (some X.sm),X.wv]) rfl rfl (by kernel_rfl) (GM p1 p2 p3) HC7.out rfl ?_;intro w8 h8 hg8;have HT8:=Aa (HT7.out.trans (HT7.out.at_.setState hg8 HD7.out (by obtain⟨e1,e2,e3,e4⟩:=HSZ.out;show w8.heap[c]?=some (.cells #[.int .i64 C1.cf.shards,.int .i64 C1.cf.intake,.int .i64 C1.cf.window,.int .i64 C1.cf.keep,.int .i64 s2.mp,.int .i64 s2.mt,.int .i64 s2.ms,.int .i64 s2.ml,.pointer (some ⟨X.ar,0,none⟩),.pointer (some ⟨X.pn,0,none⟩),.pointer (some ⟨X.bd,0,none⟩),.pointer (some ⟨X.iq,0,none⟩),.pointer (some ⟨X.sn,0,none⟩),.int .i64 s2.mp,.int .i64 s2.mt,.int .i64 s2.ms,.int .i64 s2.ml,pv2,tv2,sv2,Cp X.tb,.int .u32 C1.ever,.map (some X.sm),X.wv] 156 (0,0));rw[e1,e2,e3,e4] at h8 ⊢;exact h8)));have HQ8:=Aa ((Fp.of_grown (S:=fun k=>k=c) hg8 rfl).heap HQ7.out HNC.out);have HG8:=Aa (HG7.out.re (G:=G7) (Fp.of_grown (S:=fun k=>k=c) hg8 rfl) (fun k hk=>by rw[hk,HT7.out.at_.gc];decide) (fun _ _=>rfl));clear h8 hg8 p1 p2 p3))
       clear HT7 HD7 HS7 HQ7 HXS7 HXQ7 HG7 HC7
       generalize hX2:({ X with pv:=pv2,tv:=tv2,sv:=sv2 }:CtX)=X2 at *
       clear hX2
       have HATK:=Aa (fun e k (hk:k<(C1.s.gone s2).length)=>HMID.out.at_k e hk)
       have HGW:=Aa (show ∀ x∈C1.s.gone s2,1≤x.who∧x.who≤999∧1≤x.track∧x.track≤999 from fun x hx=>DS.subWf HMID.out.ok (DS.gone_mem.1 hx).1)
       have HGL:=Aa (show (C1.s.gone s2).length≤1000 from Nat.le_trans (List.length_filter_le _ _) (by have:=(lens HMID.out.ok HFW1.out).2.2;omega))
       have HDN:=Aa (show ∀ e,(({ C1 with s:=s2 }:Ct (Nat×Nat)).drop e (C1.s.gone s2))=(({ C1 with s:=s2 }:Ct (Nat×Nat)).drop e (C1.s.gone s2)) from fun _=>rfl)
       have kq0:=Af HQ8.out 0 (.int .i64 q.kind) rfl w8 (Le.refl _)
       go_upto_if 90 with fail
       by_cases hk0:q.kind=0
       ·have z0:(q.kind==0)=true:=by rw[beq_iff_eq];exact hk0
        rw[z0]
        have HK0:=Aa hk0
        clear hk0 z0
        go_wp2_with fail
        rw[HR.out]
        have hdn:C1.done s2 q=({ C1 with s:=s2 },0,0):=by rw[Ct.done];exact if_pos HK0.out
        refine⟨p,G7,X2,?_,?_⟩
        ·rw[HPRE.out,← HC1.out,hdn];rfl
        ·rw[HPRE.out,← HC1.out,hdn]
         exact HT3.out.trans HT8.out
       ·have z0:(q.kind==0)=false:=by rw[beq_eq_false_iff_ne];exact hk0
        rw[z0]
        have HK0:=Aa hk0
        clear hk0 z0 kq0
        have k20:=Af HT8.out.at_.hc 20 (Cp X2.tb) rfl w8 (Le.refl _)
        go_wp2_with fail
        refine (CX HT8.out.at_.tb).mono ?_
        rintro e w9 ⟨rfl,hb⟩
        have hle:=Le.mk hb
        have HT9:=Aa (HT8.out.le hle)
        have HG9:=Aa (HG8.out.re (G:=G7) (S:=fun _=>False) (Fp.of_le hle) (fun _ h=>h.elim) (fun _ _=>rfl))
        clear hb hle k20 HT8 HG8 HQ8
        have HEP:=HMID.out.ep
        have q17:IntKind.u64.wrap ((tbE C1.t:Int)+1)=((tbE C1.t+1:Nat):Int):=by rw[IntWalk.u64_in _ (by omega)];simp
        rw[show tbE ({ C1 with s:=s2 }:Ct (Nat×Nat)).t=tbE C1.t from rfl]
        obtain⟨ep,hep⟩:∃ ep,ep=tbE C1.t+1:=⟨_,rfl⟩
        rw[← hep] at q17
        have HEPE:=Aa hep
        have HBD:=Aa (show ep≤1000001 by omega)
        clear hep HEP
        have HDN:=Aa (show BP (({ C1 with s:=s2 }:Ct (Nat×Nat)).drop ep (C1.s.gone s2)) (n+1) from HMID.out.drop ep)
        have HDB:=Aa (show (({ C1 with s:=s2 }:Ct (Nat×Nat)).drop ep (C1.s.gone s2)).board.hasRoom=true by rw[DB];exact HB1.out)
        have HDO:=Aa (show C1.done s2 q=({ ({ C1 with s:=s2 }:Ct (Nat×Nat)).drop ep (C1.s.gone s2) with t:=some ((({ C1 with s:=s2 }:Ct (Nat×Nat)).drop ep (C1.s.gone s2)).made ep),board:=(({ C1 with s:=s2 }:Ct (Nat×Nat)).drop ep (C1.s.gone s2)).board.send ((({ C1 with s:=s2 }:Ct (Nat×Nat)).drop ep (C1.s.gone s2)).made ep) },ep,0) by rw[Ct.done,HEPE.out];exact if_neg HK0.out)
        have HDA:=Aa (fun k (hk:k<(C1.s.gone s2).length)=>show (({ C1 with s:=s2 }:Ct (Nat×Nat)).drop ep ((C1.s.gone s2).take (k+1)))=(({ C1 with s:=s2 }:Ct (Nat×Nat)).drop ep ((C1.s.gone s2).take k)).drop ep [(C1.s.gone s2)[k]] by rw[List.take_succ_eq_append_getElem hk,GQ])
        have HAT:=Aa (fun k (hk:k<(C1.s.gone s2).length)=>HATK.out ep k hk)
        clear HATK
        obtain⟨C2,hC2⟩:∃ D,D=({ C1 with s:=s2 }:Ct (Nat×Nat)):=⟨_,rfl⟩
        rw[← hC2] at HT9 HDN HDB HDO HDA HAT
        clear hC2
        generalize C1.s.gone s2=gl at *
        have hgl:=HGL.out
        go_wp2_with fail
        go_loopw [99] (fun i wr=>∃ (k:Nat) (G:Nat→Nat),k≤gl.length∧i=.int .i64 k∧Hd (Bj G3 w3 c X G wr X2 (C2.drop ep (gl.take k)))∧Hd (AA (fun k=>G k=0) wr 133 5 (.slice Ag gl.length cg) (gl.map BC))) (fun i _=>gl.length - (intOf i).toNat)
        case atStart=>exact⟨0,G7,Nat.zero_le _,rfl,HT9,HG9⟩
        case round =>
         obtain⟨k,G,hk,rfl,HT,HO⟩:=hrel
         rcases Nat.lt_or_ge k gl.length with hlt | hge
         ·have hltI:(k:Int)<(gl.length:Int):=by omega
          obtain⟨hnd,y,hy,hyw,hyt,hso⟩:=HAT.out k hlt
          have hda:=HDA.out k hlt
          rw[Ct.drop,Ct.drop,hso] at hda
          have HTK:=Aa hda
          have hgw:=HGW.out _ (List.getElem_mem hlt)
          have e0:(gl.map BC)[k]?=some (BC gl[k]):=by rw[List.getElem?_map,List.getElem?_eq_getElem hlt];rfl
          obtain⟨gr,hA,hrg⟩:=HO.out.elem e0
          have RG:=Aa hrg
          have q1:IntKind.i64.wrap ((k:Int)+1)=((k+1:Nat):Int):=by rw[IntWalk.i64_in _ (by omega)];simp
          clear e0 hrg hda hso
          subst hA
          generalize gl[k]=x at *
          generalize C2.drop ep (gl.take k)=D at *
          obtain⟨lit,hlit⟩:=Hn (a:=x.who) (b:=x.track) (CL (by omega) (by omega)) (CL (by omega) (by omega))
          have HLT:=Aa hlit
          have HYM:=Aa (show (Hy (x.who,x.track),FV y)∈D.seats.map Ht from List.mem_map.2 ⟨y,hy,by rw[Ht,hyw,hyt]⟩)
          have HYS:=Aa (show y∈D.seats∧y.who=x.who∧y.track=x.track from ⟨hy,hyw,hyt⟩)
          have HND:=Aa hnd
          have HXW:=Aa hgw
          clear hlit hy hyw hyt hnd hgw
          go_upto_region 21 with (first | (refine wpList_load_mid rfl 133 (.tmp 101) rfl gr (k*5) rfl (BC x) _ RG.out Tryz.underlying133 rfl (by kernel_rfl) ?_) | (refine Ak rfl 133 (.tmp 14) (.tmp 102) (cs:=[.int .i64 x.who,.int .i64 x.track,.int .i64 x.layer,.int .i64 x.tid,.bool x.muted]) rfl rfl rfl (by kernel_rfl) (by simp[Value.oneCell']) (heap_alloc_new _ _) rfl ?_;intro w10 hn hg;have HX3:=Aa hn;have HL3:=Aa (((Le.refl wr).alloc _).box1 hg (Nat.le_refl _));clear hn hg))
          have k0:=Af HX3.out 0 (.int .i64 x.who) rfl w10 (Le.refl _)
          have k1:=Af HX3.out 1 (.int .i64 x.track) rfl w10 (Le.refl _)
          go_upto_region 22 with (refine Ak rfl 300 (.tmp 15) (.tmp 107) (cs:=[.int .i64 x.who,.int .i64 x.track]) rfl rfl rfl (by kernel_rfl) (by simp[Value.oneCell']) (heap_alloc_new _ _) rfl ?_;intro w11 hn hg;have HK11:=Aa hn;have HL11:=Aa (HL3.out.trans (((Le.refl w10).alloc _).box1 hg (Nat.le_refl _)));clear hn hg)
          have HT11:=Aa (HT.out.trans (HT.out.at_.re 0 HL11.out))
          have HO11:=Aa (HO.out.re (G:=Bn G wr.heap.size 0) (S:=fun _=>False) (Fp.of_le HL11.out) (fun _ h=>h.elim) Az)
          have HGK:=Aa (show Bn G wr.heap.size 0 w10.heap.size=0 from AM HL3.out.size)
          clear HX3 HL3 HL11 HT HO RG k0 k1
          generalize Bn G wr.heap.size 0=G11 at *
          generalize w10.heap.size=gk at *
          have HC22:=Aa (show w11.drew.heap[c]?=some (.cells #[.int .i64 D.cf.shards,.int .i64 D.cf.intake,.int .i64 D.cf.window,.int .i64 D.cf.keep,.int .i64 D.s.mp,.int .i64 D.s.mt,.int .i64 D.s.ms,.int .i64 D.s.ml,.pointer (some ⟨X2.ar,0,none⟩),.pointer (some ⟨X2.pn,0,none⟩),.pointer (some ⟨X2.bd,0,none⟩),.pointer (some ⟨X2.iq,0,none⟩),.pointer (some ⟨X2.sn,0,none⟩),.int .i64 D.s.mp,.int .i64 D.s.mt,.int .i64 D.s.ms,.int .i64 D.s.ml,X2.pv,X2.tv,X2.sv,Cp X2.tb,.int .u32 D.ever,.map (some X2.sm),X2.wv] 156 (0,0)) from (Le.refl w11).drew.heap HT11.out.at_.hc)
          have HK22:=Aa ((Le.refl w11).drew.heap HK11.out)
          have HSM:=Aa (HT11.out.at_.sm.1.le (Le.refl w11).drew)
          refine' Aj 12 12 108 Le (Is _::Is _::Is _::Is _::Is _::Is _::Is _::Is _::Is _::Is _::Is _::Is _::[]) ([]::[0]::[1]::[2]::[]::[4]::[5]::[6]::[]::[7,8]::[9]::[]::[]) (by kernel_rfl) (by kernel_rfl) (by rfl) (by kernel_rfl) (by kernel_rfl) Le.refl (fun _ _ _ h h'=>h.trans h') ⟨St.is,St.is,St.is,St.is,St.is,St.is,St.is,St.is,St.is,St.is,St.is,St.is,trivial⟩ ?m22
          case m22 =>
           simp (maxSteps:=100000000) only [AR,Bv,AK,AC,An,AD,Am,Au,List.set_cons_succ,List.set_cons_zero,List.getElem?_cons_zero,List.getElem?_cons_succ,List.take_succ_cons,List.take_zero,List.drop_succ_cons,List.drop_zero,List.cons_append,List.nil_append,List.length_cons,List.length_nil,Nat.reduceAdd]
           intro x0 x1 x2 x3 x4 x5 x6 x7 x8 x9 x10 x11
           refine⟨⟨?_,?_,?_,?_,?_,?_,?_,?_,?_,?_,?_,?_,trivial⟩,?_⟩
           ·intro wo hw KQ hK;go_simp;exact hK _ _ .r .m
           ·intro wo hw h0 KQ hK;cases h0;go_simp;exact hK _ _ .r .m
           ·intro wo hw h1 KQ hK;cases h1;go_simp;exact hK _ _ .r .m
           ·intro wo hw h2 KQ hK;cases h2;have kk:=Af (hw.heap HC22.out) 9 (.pointer (some ⟨X2.pn,0,none⟩)) rfl wo (Le.refl _);go_simp;exact hK _ _ .r .m
           ·intro wo hw KQ hK;go_simp;exact hK _ _ .r .m
           ·intro wo hw h4 KQ hK;cases h4;go_simp;exact hK _ _ .r .m
           ·intro wo hw h5 KQ hK;cases h5;go_simp;exact hK _ _ .r .m
           ·intro wo hw h6 KQ hK;cases h6;have kk:=Af (hw.heap HC22.out) 22 (.map (some X2.sm)) rfl wo (Le.refl _);go_simp;exact hK _ _ .r .m
           ·intro wo hw KQ hK;refine cast (if_pos (show Region.wanted _ _=true from rfl)).symm ?_;have hz:=(hw.heap HK22.out);refine Av 300 (.tmp 15) rfl (cs:=[.int .i64 x.who,.int .i64 x.track]) _ rfl Tryz.underlying300 rfl (by kernel_rfl) hz ?_;exact hK _ _ .r .m
           ·intro wo hw h7 h8 KQ hK;cases h7;cases h8;have hr9:=(HSM.out.le hw).hit DW Tryz.underlying153 (show (zeroValue 298).run Tryz.prog wo=.ok (.agg #[.int .i64 0,.int .u32 0,.int .u32 0]) wo by kernel_rfl) HLT.out HYM.out;simp only[FV,Hy] at hr9;have hr9:=hr9.1;go_simp;exact hK _ _ .r .m
           ·intro wo hw h9 KQ hK;cases h9;go_simp;exact hK _ _ .r .m
           ·intro wo hw KQ hK;go_simp;exact hK _ _ .r .m
           ·intro wz hz h0 h1 h2 h3 h4 h5 h6 h7 h8 h9 h10 h11;cases h0;cases h1;cases h2;cases h3;cases h4;cases h5;cases h6;cases h7;cases h8;cases h9;cases h10;cases h11;skip
            have hle:=(Le.refl w11).drew.trans hz
            have HT12:=Aa (HT11.out.le hle)
            have HO12:=Aa (HO11.out.re (G:=G11) (S:=fun _=>False) (Fp.of_le hle) (fun _ h=>h.elim) (fun _ _=>rfl))
            have HK12:=Aa (hle.heap HK11.out)
            clear hle hz HT11 HO11 HK11 HC22 HK22 HSM
            go_wp2_with fail
            refine (ctRetire HT12.out.at_ y.ref ep).mono ?_
            rintro en w13 ⟨⟨v,rfl⟩,hf,hc⟩
            have HT13:=Aa (HT12.out.trans hc)
            have HO13:=Aa (HO12.out.re (G:=Bn G11 wz.heap.size 3) hf (fun k hk=>by rw[hk.2];decide) Az)
            have HK13:=Aa (hf.heap HK12.out (fun e=>by have:=e.2;rw[HGK.out] at this;cases this))
            have HGK3:=Aa (show Bn G11 wz.heap.size 3 gk=0 from (Az _ (Ah HK12.out)).trans HGK.out)
            clear hf hc HT12 HO12 HK12
            generalize Bn G11 wz.heap.size 3=G13 at *
            go_upto_region 23 with fail
            have HC23:=Aa (show w13.drew.heap[c]?=some (.cells #[.int .i64 D.cf.shards,.int .i64 D.cf.intake,.int .i64 D.cf.window,.int .i64 D.cf.keep,.int .i64 D.s.mp,.int .i64 D.s.mt,.int .i64 D.s.ms,.int .i64 D.s.ml,.pointer (some ⟨X2.ar,0,none⟩),.pointer (some ⟨X2.pn,0,none⟩),.pointer (some ⟨X2.bd,0,none⟩),.pointer (some ⟨X2.iq,0,none⟩),.pointer (some ⟨X2.sn,0,none⟩),.int .i64 D.s.mp,.int .i64 D.s.mt,.int .i64 D.s.ms,.int .i64 D.s.ml,X2.pv,X2.tv,X2.sv,Cp X2.tb,.int .u32 D.ever,.map (some X2.sm),X2.wv] 156 (0,0)) from (Le.refl w13).drew.heap HT13.out.at_.hc)
            have HK23:=Aa ((Le.refl w13).drew.heap HK13.out)
            generalize wz=wy at *
            refine' Aj 5 5 121 Le (Is _::Is _::Is _::Is _::Is _::[]) ([]::[0]::[1]::[2]::[]::[]) (by kernel_rfl) (by kernel_rfl) (by rfl) (by kernel_rfl) (by kernel_rfl) Le.refl (fun _ _ _ h h'=>h.trans h') ⟨St.is,St.is,St.is,St.is,St.is,trivial⟩ ?m23
            case m23 =>
             simp (maxSteps:=100000000) only [AR,Bv,AK,AC,An,AD,Am,Au,List.set_cons_succ,List.set_cons_zero,List.getElem?_cons_zero,List.getElem?_cons_succ,List.take_succ_cons,List.take_zero,List.drop_succ_cons,List.drop_zero,List.cons_append,List.nil_append,List.length_cons,List.length_nil,Nat.reduceAdd]
             intro x0 x1 x2 x3 x4
             refine⟨⟨?_,?_,?_,?_,?_,trivial⟩,?_⟩
             ·intro wo hw KQ hK;go_simp;exact hK _ _ .r .m
             ·intro wo hw h0 KQ hK;cases h0;go_simp;exact hK _ _ .r .m
             ·intro wo hw h1 KQ hK;cases h1;go_simp;exact hK _ _ .r .m
             ·intro wo hw h2 KQ hK;cases h2;have kk:=Af (hw.heap HC23.out) 22 (.map (some X2.sm)) rfl wo (Le.refl _);go_simp;exact hK _ _ .r .m
             ·intro wo hw KQ hK;refine cast (if_pos (show Region.wanted _ _=true from rfl)).symm ?_;have hz:=(hw.heap HK23.out);refine Av 300 (.tmp 15) rfl (cs:=[.int .i64 x.who,.int .i64 x.track]) _ rfl Tryz.underlying300 rfl (by kernel_rfl) hz ?_;exact hK _ _ .r .m
             ·intro wz hz h0 h1 h2 h3 h4;cases h0;cases h1;cases h2;cases h3;cases h4;skip
              have hle:=(Le.refl w13).drew.trans hz
              have HT14:=Aa (HT13.out.le hle)
              have hxw:=HXW.out
              have hys:=HYS.out
              obtain⟨w15,hr15,hf15,hc15⟩:=HT14.out.at_.delSeat HND.out hys.1 (CL (by omega) (by omega)) (CL (by omega) (by omega)) 0
              have HT15:=Aa (HT14.out.trans hc15)
              have HO15:=Aa (HO13.out.re (G:=G13) ((Fp.of_le hle).trans hf15) (fun k hk=>by rw[hk,HT14.out.at_.sm.2];decide) (fun _ _=>rfl))
              rw[hys.2.1,hys.2.2] at hr15
              clear hxw hle hf15 hc15 hz HC23 HK23 HT13 HO13 hys
              go_wp2_with (refine wpl_del (vm:=.map (some X2.sm)) (vy:=Hy (x.who,x.track)) rfl (.tmp 124) (.tmp 125) rfl rfl rfl hr15 ?_;clear hr15)
              refine⟨⟨k+1,G13,hlt,by simp,Aa ?_,HO15⟩,by simp only[intOf];omega⟩
              rw[HTK.out]
              have h9:=HT15.out
              rw[HYS.out.2.1,HYS.out.2.2] at h9
              exact h9
         ·have hgeI:¬ (k:Int)<(gl.length:Int):=by omega
          have HTE:=Aa (show Bj G3 w3 c X G wr X2 (C2.drop ep gl) from by have h9:=HT.out;rwa [List.take_of_length_le hge] at h9)
          clear HT HO HAT HDA HGW
          generalize C2.drop ep gl=D at *
          obtain⟨ts9,hd9⟩:=HTE.out.at_.st
          have HMD:=Aa (made_any HTE.out.at_.hc hd9 HDN.out.fit.ok HDN.out.few HDN.out.cf.1 HDN.out.cf.2.1 HTE.out.at_.sm.1 HDN.out.has HDN.out.key (fun t ht=>by have h1:=HDN.out.fit.fr t ht;have h2:=(HDN.out.fit.ok.tIn t ht).2.2.2;exact CL (by omega) (by omega)) (HDN.out.tbFit (by omega)) ep)
          clear hd9
          go_wp2_with fail
          refine HMD.out.mono ?_
          rintro e w10 ⟨t9,rfl,ht,hl⟩
          have HT10:=Aa (HTE.out.trans (HTE.out.at_.re 8 hl))
          have HTB:=Aa (ht.mono (N':=tg (Bn G wr.heap.size 8) 8) fun k hk=>AM hk)
          clear ht hl HTE HMD
          generalize Bn G wr.heap.size 8=G10 at *
          have HC10:=Aa (show w10.heap[c]?=some (.cells #[.int .i64 D.cf.shards,.int .i64 D.cf.intake,.int .i64 D.cf.window,.int .i64 D.cf.keep,.int .i64 D.s.mp,.int .i64 D.s.mt,.int .i64 D.s.ms,.int .i64 D.s.ml,.pointer (some ⟨X2.ar,0,none⟩),.pointer (some ⟨X2.pn,0,none⟩),.pointer (some ⟨X2.bd,0,none⟩),.pointer (some ⟨X2.iq,0,none⟩),.pointer (some ⟨X2.sn,0,none⟩),.int .i64 D.s.mp,.int .i64 D.s.mt,.int .i64 D.s.ms,.int .i64 D.s.ml,X2.pv,X2.tv,X2.sv,Cp X2.tb,.int .u32 D.ever,.map (some X2.sm),X2.wv] 156 (0,0)) from HT10.out.at_.hc)
          go_upto_region 26 with (refine Ao rfl 64 (.tmp 135) (.tmp 132) rfl [.int .i64 D.cf.shards,.int .i64 D.cf.intake,.int .i64 D.cf.window,.int .i64 D.cf.keep,.int .i64 D.s.mp,.int .i64 D.s.mt,.int .i64 D.s.ms,.int .i64 D.s.ml,.pointer (some ⟨X2.ar,0,none⟩),.pointer (some ⟨X2.pn,0,none⟩),.pointer (some ⟨X2.bd,0,none⟩),.pointer (some ⟨X2.iq,0,none⟩),.pointer (some ⟨X2.sn,0,none⟩),.int .i64 D.s.mp,.int .i64 D.s.mt,.int .i64 D.s.ms,.int .i64 D.s.ml,X2.pv,X2.tv,X2.sv] (v:=.pointer (some ⟨t9,0,none⟩)) (old:=Cp X2.tb) (post:=[.int .u32 D.ever,.map (some X2.sm),X2.wv]) rfl rfl (by kernel_rfl) rfl HC10.out ?_;intro w11 h11 hg11;have HT11:=Aa (HT10.out.trans (HT10.out.at_.setTb hg11 HTB.out h11));have HTB11:=Aa (HTB.out.mv (g':=G10) (Fp.of_grown (S:=fun k=>k=c) hg11 rfl) (fun k hk=>by rw[hk,HT10.out.at_.gc];decide) (fun _ _=>rfl));clear h11 hg11)
          have HC26:=Aa (show w11.drew.heap[c]?=some (.cells #[.int .i64 D.cf.shards,.int .i64 D.cf.intake,.int .i64 D.cf.window,.int .i64 D.cf.keep,.int .i64 D.s.mp,.int .i64 D.s.mt,.int .i64 D.s.ms,.int .i64 D.s.ml,.pointer (some ⟨X2.ar,0,none⟩),.pointer (some ⟨X2.pn,0,none⟩),.pointer (some ⟨X2.bd,0,none⟩),.pointer (some ⟨X2.iq,0,none⟩),.pointer (some ⟨X2.sn,0,none⟩),.int .i64 D.s.mp,.int .i64 D.s.mt,.int .i64 D.s.ms,.int .i64 D.s.ml,X2.pv,X2.tv,X2.sv,.pointer (some ⟨t9,0,none⟩),.int .u32 D.ever,.map (some X2.sm),X2.wv] 156 (0,0)) from (Le.refl w11).drew.heap HT11.out.at_.hc)
          clear HT10 HTB HC10
          refine' Aj 8 8 136 Le (Is _::Is _::Is _::Is _::Is _::Is _::Is _::Is _::[]) ([]::[0]::[1]::[2]::[]::[4]::[5]::[6]::[]) (by kernel_rfl) (by kernel_rfl) (by rfl) (by kernel_rfl) (by kernel_rfl) Le.refl (fun _ _ _ h h'=>h.trans h') ⟨St.is,St.is,St.is,St.is,St.is,St.is,St.is,St.is,trivial⟩ ?m26
          case m26 =>
           simp (maxSteps:=100000000) only [AR,Bv,AK,AC,An,AD,Am,Au,List.set_cons_succ,List.set_cons_zero,List.getElem?_cons_zero,List.getElem?_cons_succ,List.take_succ_cons,List.take_zero,List.drop_succ_cons,List.drop_zero,List.cons_append,List.nil_append,List.length_cons,List.length_nil,Nat.reduceAdd]
           intro x0 x1 x2 x3 x4 x5 x6 x7
           refine⟨⟨?_,?_,?_,?_,?_,?_,?_,?_,trivial⟩,?_⟩
           ·intro wo hw KQ hK;go_simp;exact hK _ _ .r .m
           ·intro wo hw h0 KQ hK;cases h0;go_simp;exact hK _ _ .r .m
           ·intro wo hw h1 KQ hK;cases h1;go_simp;exact hK _ _ .r .m
           ·intro wo hw h2 KQ hK;cases h2;have kk:=Af (hw.heap HC26.out) 10 (.pointer (some ⟨X2.bd,0,none⟩)) rfl wo (Le.refl _);go_simp;exact hK _ _ .r .m
           ·intro wo hw KQ hK;go_simp;exact hK _ _ .r .m
           ·intro wo hw h4 KQ hK;cases h4;go_simp;exact hK _ _ .r .m
           ·intro wo hw h5 KQ hK;cases h5;go_simp;exact hK _ _ .r .m
           ·intro wo hw h6 KQ hK;cases h6;have kk:=Af (hw.heap HC26.out) 20 (.pointer (some ⟨t9,0,none⟩)) rfl wo (Le.refl _);go_simp;exact hK _ _ .r .m
           ·intro wz hz h0 h1 h2 h3 h4 h5 h6 h7;cases h0;cases h1;cases h2;cases h3;cases h4;cases h5;cases h6;cases h7;skip
            have hle:=(Le.refl w11).drew.trans hz
            have HT12:=Aa (HT11.out.le hle)
            have HTB12:=Aa (HTB11.out.le hle)
            clear hle hz HT11 HTB11 HC26
            go_wp2_with fail
            refine (ctSend HT12.out.at_ HDB.out HTB12.out).mono ?_
            rintro en w13 ⟨⟨v,rfl⟩,hc⟩
            have HT13:=Aa (HT12.out.trans hc)
            clear hc
            go_wp2_with fail
            rw[HR.out]
            refine⟨p,Bn G10 wz.heap.size 4,{ X2 with tb:=some t9 },?_,?_⟩
            ·rw[HPRE.out,← HC1.out,HDO.out];rfl
            ·rw[HPRE.out,← HC1.out,HDO.out]
             exact HT3.out.trans HT13.out
  ·have HE0:=Aa h0
   obtain⟨er,her⟩:∃ e,e=(C.s.do_ q).2:=⟨_,rfl⟩
   have HER:=Aa her.symm
   have hne:¬ er=0:=by rw[her];exact h0
   have hnb:(er !=0)=true:=by rw[bne_iff_ne];exact hne
   clear her h0 HDOA
   go_upto_region 3 with fail
   have HC3:=Aa (show w2.drew.heap[c]?=some (.cells #[.int .i64 C.cf.shards,.int .i64 C.cf.intake,.int .i64 C.cf.window,.int .i64 C.cf.keep,.int .i64 C.s.mp,.int .i64 C.s.mt,.int .i64 C.s.ms,.int .i64 C.s.ml,.pointer (some ⟨X.ar,0,none⟩),.pointer (some ⟨X.pn,0,none⟩),.pointer (some ⟨X.bd,0,none⟩),.pointer (some ⟨X.iq,0,none⟩),.pointer (some ⟨X.sn,0,none⟩),.int .i64 C.s.mp,.int .i64 C.s.mt,.int .i64 C.s.ms,.int .i64 C.s.ml,X.pv,X.tv,X.sv,Cp X.tb,.int .u32 C.ever,.map (some X.sm),X.wv] 156 (0,0)) from (Le.refl w2).drew.heap HT2.out.at_.hc)
   have HQ3:=Aa ((Le.refl w2).drew.heap HQ2.out)
   have HL2:=Aa (HL2'.out.trans (Le.refl w2).drew)
   obtain⟨n2,hn2⟩:∃ n,n=w2.heap.size:=⟨_,rfl⟩
   have HN3:=Aa (show w2.drew.heap.size≤n2 from by rw[hn2];exact Nat.le_refl _)
   have HM3:=Aa (show n2≤w2.drew.heap.size from by rw[hn2];exact Nat.le_refl _)
   have HCN3:=Aa (show c<n2∧¬ False from ⟨by rw[hn2];exact Ah HT2.out.at_.hc,fun e=>e⟩)
   have HQN3:=Aa (show xq<n2∧¬ False from ⟨by rw[hn2];exact Ah HQ2.out,fun e=>e⟩)
   have HNN:=Aa hn2
   clear hn2
   refine' AB 10 11 6 23 Le (Nk (fun _=>False) n2 62 7 (fun _=>True)) (IsD _::IsD _::IsD _::IsD _::IsD _::IsD (.tuple #[.agg #[.int .i64 C.s.mp,.int .i64 C.s.mt,.int .i64 C.s.ms,.int .i64 C.s.ml,X.pv,X.tv,X.sv],.int .i64 er])::IsD _::IsD _::IsD _::(fun _ v W=>Cw (fun _=>False) n2 62 7 v W)::(fun _ _ _=>True)::[]) ([]::[0]::[1]::[2]::[]::[3,4]::[5]::[6]::[6]::[]::[7,9]::[]) (by kernel_rfl) (by kernel_rfl) (by rfl) (by kernel_rfl) (by kernel_rfl) Le.refl (fun _ _ _ h h'=>h.trans h') (fun _ _ _ h h'=>h.trans h') (fun _ _ h=>Nk.of_le h) ⟨StQ.is,StQ.is,StQ.is,StQ.is,StQ.is,StQ.is,StQ.is,StQ.is,StQ.is,(fun _ _ _ _ hb h=>Cw.stay hb h),(fun _ _ _ _ _ h=>h),trivial⟩ ?m3
   case m3 =>
    simp (maxSteps:=100000000) only [AR,DU,Nat.reduceBEq,cond_true,cond_false,AU,AH,AE,B6,AD,Am,Au,Act.put,List.setIfInBounds_toArray,List.set_cons_succ,List.set_cons_zero,List.map_cons,List.getElem?_cons_zero,List.getElem?_cons_succ,Option.getD_some,List.map_nil,List.take_succ_cons,List.take_zero,List.drop_succ_cons,List.drop_zero,List.cons_append,List.nil_append,List.length_cons,List.length_nil,Nat.reduceAdd]
    intro x0 x1 x2 x3 x4 x5 x6 x7 x8 x9 x10
    refine⟨⟨?_,?_,?_,?_,?_,?_,?_,?_,?_,?_,?_,trivial⟩,?_⟩
    ·intro wo hw KQ hK;go_simp;exact hK _ _ .r .m
    ·intro wo hw h0 KQ hK;cases h0;go_simp;exact hK _ _ .r .m
    ·intro wo hw h1 KQ hK;cases h1;go_simp;exact hK _ _ .r .m
    ·intro wo hw h2 KQ hK;cases h2;refine cast (if_pos (show Region.wanted _ _=true from rfl)).symm ?_;have hz:=(hw.old' HC3.out HCN3.out);refine Cb 62 (.tmp 25) rfl [.int .i64 C.cf.shards,.int .i64 C.cf.intake,.int .i64 C.cf.window,.int .i64 C.cf.keep,.int .i64 C.s.mp,.int .i64 C.s.mt,.int .i64 C.s.ms,.int .i64 C.s.ml,.pointer (some ⟨X.ar,0,none⟩),.pointer (some ⟨X.pn,0,none⟩),.pointer (some ⟨X.bd,0,none⟩),.pointer (some ⟨X.iq,0,none⟩),.pointer (some ⟨X.sn,0,none⟩)] [.int .i64 C.s.mp,.int .i64 C.s.mt,.int .i64 C.s.ms,.int .i64 C.s.ml,X.pv,X.tv,X.sv] [Cp X.tb,.int .u32 C.ever,.map (some X.sm),X.wv] _ rfl Tryz.underlying62 rfl (by kernel_rfl) hz ?_;exact hK _ _ .r .m
    ·intro wo hw KQ hK;refine cast (if_pos (show Region.wanted _ _=true from rfl)).symm ?_;have hz:=(hw.old' HQ3.out HQN3.out);refine Av 31 (.tmp 3) rfl (cs:=[.int .i64 q.kind,.int .i64 q.who,.int .i64 q.room,.int .i64 q.rights,.int .i64 q.track,.slice A q.ssrcs.length cap,.int .i64 q.layer,.int .i64 q.tid]) _ rfl Tryz.underlying31 rfl (by kernel_rfl) hz ?_;exact hK _ _ .r .m
    ·intro wo hw h3 h4 KQ hK;cases h3;cases h4;go_simp;refine (do_any (HDS.out.le ((Le.refl w2).drew.trans (hw.le HN3.out))) HOK.out.fit.ok HOK.out.few HFRM.out q A cap (AI HCQ.out (HL2.out.trans (hw.le HN3.out))) HQL.out HCAP.out HAN.out).mono ?_;intro e w' hd;have he:=hd.no HE0.out;rw[HER.out] at he;subst he;exact hK _ _ hd.le (IsD.mk _ _ _)
    ·intro wo hw h5 KQ hK;cases h5;go_simp;exact hK _ _ .r .m
    ·intro wo hw h6 KQ hK;cases h6;go_simp;exact hK _ _ .r .m
    ·intro wo hw h6 KQ hK;cases h6;go_simp;exact hK _ _ .r .m
    ·intro wo hw KQ hK;go_simp;exact hK _ _ ((Le.refl _).alloc _) (Cw.new (Nat.le_trans HM3.out hw.size) (fun _ h=>h.elim) rfl)
    ·intro wo hw h7 h9 KQ hK;cases h7;obtain⟨xs,cs9,rfl,hB9,hA9,hh9,hz9⟩:=h9;refine cast (if_pos (show Region.wanted _ _=true from rfl)).symm ?_;refine BD 62 (.tmp 6) (.tmp 29) rfl (cs:=[.int .i64 C.s.mp,.int .i64 C.s.mt,.int .i64 C.s.ms,.int .i64 C.s.ml,X.pv,X.tv,X.sv]) rfl rfl (by kernel_rfl) (GM HP1.out HP2.out HP3.out) hh9 hz9 ?_;intro w' h' hg';exact hK undef _ (Nk.store (A:=fun _=>False) (φ:=fun _=>True) hg' hB9 hh9 h' hz9 rfl trivial) trivial
    ·intro wz hz h0 h1 h2 h3 h4 h5 h6 h7 h8 h9 h10;cases h0;cases h1;cases h2;cases h3;cases h4;cases h5;cases h6;cases h7;cases h8;obtain⟨xs,cs9,rfl,hB9,hA9,hh9,hz9⟩:=h9;skip
     have HT9:=Aa (HT2.out.le ((Le.refl w2).drew.trans (hz.le HN3.out)))
     clear hz
     go_wp2_with fail
     rw[HR.out]
     refine⟨0,G1,X,?_,?_⟩
     ·rw[do_err HROOM.out HE0.out,HER.out];rfl
     ·rw[do_err HROOM.out HE0.out]
      exact HT9.out
end
end Go.Proofs.YtmcndlofaanjiaaGreat
