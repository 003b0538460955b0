/- Texts of one claim, laid together: CtM -/
import Derived.Test.YtmcndlofaanjiaaGreatJo24
/- control.made: the table of an epoch. (Written by gen_ctm.py.) -/
namespace Go.Proofs.YtmcndlofaanjiaaGreat
open Go.RowKit
set_option linter.unusedVariables false
set_option maxRecDepth 100000
set_option maxHeartbeats 8000000
def rtOf (n:Nat) (t:Trk) (k:Nat) (x:Nat):Rt:=⟨x,t.id,t.from_,k,t.id%n⟩
def Dp (n:Nat) (t:Trk):List Rt:=t.ssrcs.mapIdx (rtOf n t)
def AP (n:Nat) (ts:List Trk):List Rt:=ts.flatMap (Dp n)
def dwOf (n:Nat) (ts:List Trk) (seats:List C0) (x:Sub):Dw:=⟨(BR seats x.who x.track).ssrc,(BR seats x.who x.track).ref,x.who,x.track,x.track%n,Hm ts x.track,x.layer,x.tid,x.muted⟩
def BA (n:Nat) (ts:List Trk) (seats:List C0) (xs:List Sub):List Dw:=xs.map (dwOf n ts seats)
theorem Dj (n:Nat) (t:Trk):(Dp n t).length=t.ssrcs.length:=by simp[Dp]
theorem Cv (n:Nat):∀ (ts:List Trk),(∀ t∈ts,t.ssrcs.length≤3)→(AP n ts).length≤3*ts.length
 | [],_=>by simp[AP]
 | t::ts,h=>by
  have h1:=Cv n ts (fun u hu=>h u (List.mem_cons_of_mem _ hu))
  have h2:=h t (List.mem_cons_self ..)
  show ((t::ts).flatMap (Dp n)).length≤_
  rw[List.flatMap_cons,List.length_append,Dj,List.length_cons]
  simp only[AP] at h1
  omega
theorem rts_take {n:Nat} {t:Trk} {j x:Nat} (h:t.ssrcs[j]?=some x):(Dp n t).take (j+1)=(Dp n t).take j++[rtOf n t j x]:=by
 obtain⟨hj,e⟩:=List.getElem?_eq_some_iff.1 h
 have hj':j<(Dp n t).length:=by rw[Dj];exact hj
 rw[List.take_succ_eq_append_getElem hj']
 congr 2
 simp[Dp,e]
theorem BY {seats:List C0} (hp:(seats.map fun y=>(y.who,y.track)).Nodup) {y:C0} (hy:y∈seats):BR seats y.who y.track=y:=by
 rw[BR]
 cases hf:seats.find? fun x=>decide (x.who=y.who)&&decide (x.track=y.track) with
 | none=>exact absurd (List.find?_eq_none.1 hf y hy) (by simp)
 | some z =>
  have h1:=List.mem_of_find?_eq_some hf
  have h2:=List.find?_some hf
  simp only[Bool.and_eq_true,decide_eq_true_eq] at h2
  rw[Option.getD_some]
  exact A4 (f:=fun y:C0=>(y.who,y.track)) hp h1 hy (by rw[h2.1,h2.2])
theorem If {ts:List Trk} (hp:ts.Pairwise fun a b=>a.id<b.id) {t:Trk} (ht:t∈ts):Hm ts t.id=t.from_:=by
 rw[Hm]
 cases hf:ts.find? fun x=>decide (x.id=t.id) with
 | none=>exact absurd (List.find?_eq_none.1 hf t ht) (by simp)
 | some z =>
  have h1:=List.mem_of_find?_eq_some hf
  have h2:=List.find?_some hf
  simp only[decide_eq_true_eq] at h2
  have hn:(ts.map Trk.id).Nodup:=by
   rw[List.Nodup,List.pairwise_map]
   exact hp.imp (fun h=>by omega)
  rw[A4 (f:=Trk.id) hn h1 ht h2]
  rfl
structure Md1 (w wr:World) (s6:Value) (rs:List Rt) (ts:List Trk):Prop where
 own:AA (fun k=>w.heap.size<k) wr 233 5 s6 (rs.map rtC)
 fm:Bz Tryz.prog wr w.heap.size 3 (ts.map fromE)
 le:Le w wr
structure Md2 (w wr:World) (s6 s12:Value) (rs:List Rt) (ts:List Trk) (ds:List Dw):Prop where
 own:AA (fun k=>w.heap.size<k) wr 233 5 s6 (rs.map rtC)
 own2:AA (fun k=>w.heap.size<k) wr 137 10 s12 (ds.map dwC)
 fm:Bz Tryz.prog wr w.heap.size 3 (ts.map fromE)
 le:Le w wr
section
variable {w wr w':World} {s6 s12 v:Value} {rs:List Rt} {ts:List Trk} {ds:List Dw}
theorem Md1.next (h:Md1 w wr s6 rs ts) (hl:Le wr w'):Md1 w w' s6 rs ts:=⟨h.own.le hl,h.fm.le hl,h.le.trans hl⟩
theorem Md2.next (h:Md2 w wr s6 s12 rs ts ds) (hl:Le wr w'):Md2 w w' s6 s12 rs ts ds:=⟨h.own.le hl,h.own2.le hl,h.fm.le hl,h.le.trans hl⟩
theorem Md1.app (h:Md1 w wr s6 rs ts) {r:Rt} (ha:EB wr 233 5 s6 (rs.map rtC) (rtC r) v w'):Md1 w w' v (rs++[r]) ts:=by
 have hf:=ha.fp h.own
 have hs:=h.fm.lt
 refine⟨?_,h.fm.fp hf (by show ¬ w.heap.size<w.heap.size;omega),Fp.le_new h.le hf (fun k hk=>Nat.le_of_lt hk)⟩
 have:=ha.ownR h.own rfl
 rw[List.map_append]
 exact this.mono fun k _ hk=>hk.elim _root_.id fun hk=>Nat.lt_of_lt_of_le hs hk
theorem Md2.app (h:Md2 w wr s6 s12 rs ts ds) {r:Dw} (ha:EB wr 137 10 s12 (ds.map dwC) (dwC r) v w'):Md2 w w' s6 v rs ts (ds++[r]):=by
 have hf:=ha.fp h.own2
 have hs:=h.fm.lt
 refine⟨h.own.keep h.own2 (by decide) (Fp.of_gr ha.gr),?_,h.fm.fp hf (by show ¬ w.heap.size<w.heap.size;omega),Fp.le_new h.le hf (fun k hk=>Nat.le_of_lt hk)⟩
 have:=ha.ownR h.own2 rfl
 rw[List.map_append]
 exact this.mono fun k _ hk=>hk.elim _root_.id fun hk=>Nat.lt_of_lt_of_le hs hk
theorem Md1.put (h:Md1 w wr s6 rs ts) {t:Trk} (hg:wr.grownBy w' (some w.heap.size)) (hv:Bz Tryz.prog w' w.heap.size 3 ((ts++[t]).map fromE)):Md1 w w' s6 rs (ts++[t]) :=
 ⟨⟨Bp h.own.own (Fp.of_grown (S:=fun k=>k=w.heap.size) hg rfl) (fun k hk e=>by have h1:w.heap.size<k:=h.own.blk k hk;omega),h.own.blk,h.own.len⟩,hv,h.le.newg hg (Nat.le_refl _)⟩
end
theorem DY.mono {N N':Nat→Prop} {w:World} {t:Nat} {tb:Tb} (h:DY N w t tb) (hm:∀ k,N k→N' k):DY N' w t tb:=by
 obtain⟨br,bd,h⟩:=h
 exact⟨br,bd,h.ht,h.hr,h.hd,hm _ h.Nt,hm _ h.Nr,hm _ h.Nd⟩
theorem slRt:SlT Tryz.prog 375 233 (.agg #[.int .u32 0,.int .i64 0,.int .i64 0,.int .i64 0,.int .i64 0]) 5 40:=⟨Tryz.underlying375,by kernel_rfl,rfl,by omega⟩
theorem slDw:SlT Tryz.prog 130 137 (.agg #[.int .u32 0,.int .i64 0,.int .u32 0,.int .i64 0,.int .i64 0,.int .i64 0,.int .i64 0,.int .i64 0,.int .i64 0,.bool false]) 10 80:=⟨Tryz.underlying130,by kernel_rfl,rfl,by omega⟩
theorem made_any {M:Nat→Prop} {w:World} {c:Nat} {cf:Cf} {s:DS} {X:CtX} {ever:Nat} {ts:List (Trk×Value)} {seats:List C0} (hc:w.heap[c]?=some (.cells (ctC cf s X ever).toArray 156 (0,0))) (hD:DsB M w s X.pv X.tv X.sv ts) (ok:s.Ok) (fw:s.Few)
  (hn1:1≤cf.shards) (hn4:cf.shards≤4) (hS:Bz Tryz.prog w X.sm 300 (seats.map Ht)) (hseat:∀ x∈s.subs,∃ y∈seats,y.who=x.who∧y.track=x.track) (hnd:(seats.map fun y=>(y.who,y.track)).Nodup) (hwf:∀ t∈s.tracks,(Lit.int .i64 t.from_).wf=true)
  (hfit:TbFit (AP cf.shards s.tracks) (BA cf.shards s.tracks seats s.subs)) (e:Nat) :
  Calls Tryz.prog 123 #[.pointer (some ⟨c,0,none⟩),.int .u64 e] w (MakeP w e (AP cf.shards s.tracks) (BA cf.shards s.tracks seats s.subs)):=by
 obtain⟨l1,l2,l3⟩:=lens ok fw
 have hmm:=@run_makeMap Tryz.prog
 obtain⟨Atr,ctr,htv,_,_,_⟩:=hD.hT.cells
 obtain⟨Asu,csu,hsv,_,_,_⟩:=hD.hS.cells
 rw[List.length_map] at htv hsv
 have HD0:=Aa hD
 have HTV:=Aa htv
 have HSV:=Aa hsv
 have HC0:=Aa (show w.heap[c]?=some (.cells #[.int .i64 cf.shards,.int .i64 cf.intake,.int .i64 cf.window,.int .i64 cf.keep,.int .i64 s.mp,.int .i64 s.mt,.int .i64 s.ms,.int .i64 s.ml,.pointer (some ⟨X.ar,0,none⟩),.pointer (some ⟨X.pn,0,none⟩),.pointer (some ⟨X.bd,0,none⟩),.pointer (some ⟨X.iq,0,none⟩),.pointer (some ⟨X.sn,0,none⟩),.int .i64 s.mp,.int .i64 s.mt,.int .i64 s.ms,.int .i64 s.ml,X.pv,X.tv,X.sv,Cp X.tb,.int .u32 ever,.map (some X.sm),X.wv] 156 (0,0)) from hc)
 have HS0:=Aa hS
 have HSE:=Aa hseat
 have HND:=Aa hnd
 have HWF:=Aa hwf
 have HFIT:=Aa hfit
 have HOK:=Aa ok
 have hlt:ts.length=s.tracks.length:=hD.lenT
 have HET:=Aa hD.eT
 have htl:ts.length≤16:=by omega
 have HLTT:=Aa hlt
 obtain⟨R,hR⟩:∃ R,R=MakeP w e (AP cf.shards s.tracks) (BA cf.shards s.tracks seats s.subs):=⟨_,rfl⟩
 rw[← hR]
 have HR:=Aa hR
 have k18:w.cell? ⟨c,18,none⟩=some (.slice Atr ts.length ctr):=by rw[Ae HC0.out];show some X.tv=_;rw[htv]
 clear hR hc hD hS hseat hnd hwf hfit ok htv hsv hlt
 go_enter Tryz.func123,Tryz.ntmps123
 have k18':=((Le.refl w).alloc (.map #[] 0)).cell k18
 clear k18
 go_upto_region 3 with fail
 have HI:=Aa (show Md1 w (w.alloc (.map #[] 0)) (.slice none 0 0) (AP cf.shards ((ts.take 0).map (·.1))) ((ts.take 0).map (·.1)) from ⟨AA.nil,Bz.made Tryz.prog w 3,(Le.refl w).alloc _⟩)
 generalize w.alloc (.map #[] 0)=w1 at *
 go_wp2_with fail
 clear k18'
 go_loopw [6,23] (fun z6 i wr=>∃ (k:Nat) (s6:Value),k≤ts.length∧i=.int .i64 k∧s6=z6∧Hd (Md1 w wr s6 (AP cf.shards ((ts.take k).map (·.1))) ((ts.take k).map (·.1)))) (fun _ i _=>ts.length - (intOf i).toNat)
 case atStart=>exact⟨0,_,Nat.zero_le _,rfl,rfl,HI⟩
 case round =>
  obtain⟨k,s6,hk,rfl,rfl,HW⟩:=hrel
  rcases Nat.lt_or_ge k ts.length with hlt | hge
  ·have hltI:(k:Int)<(ts.length:Int):=by omega
   have e0:=List.getElem?_eq_getElem hlt
   have hsT:s.tracks[k]?=some ts[k].1:=by rw[← HET.out,List.getElem?_map,e0];rfl
   have HTI0:=Aa (HOK.out.tIn _ (List.mem_of_getElem? hsT))
   have HWF1:=Aa (HWF.out _ (List.mem_of_getElem? hsT))
   have HTK:=Aa (show (ts.take (k+1)).map (·.1)=(ts.take k).map (·.1)++[ts[k].1] by rw[List.take_succ_eq_append_getElem hlt,List.map_append];rfl)
   have HNEW:=Aa (show ∀ t∈(ts.take k).map (·.1),t.id≠ts[k].1.id from fun t ht=>by
    obtain⟨t',ht',rfl⟩:=List.mem_map.1 ht
    obtain⟨j,hj,rfl⟩:=List.getElem_of_mem ht'
    rw[List.length_take] at hj
    rw[List.getElem_take]
    have hp:=List.pairwise_iff_getElem.1 HOK.out.tracks j k (by rw[← HLTT.out];omega) (by rw[← HLTT.out];exact hlt) (by omega)
    have e1:s.tracks[j]'(by rw[← HLTT.out];omega)=(ts[j]'(by omega)).1:=by
     have:s.tracks[j]?=some (ts[j]'(by omega)).1:=by rw[← HET.out,List.getElem?_map,List.getElem?_eq_getElem (by omega)];rfl
     exact (List.getElem?_eq_some_iff.1 this).2
    have e2:s.tracks[k]'(by rw[← HLTT.out];exact hlt)=ts[k].1:=(List.getElem?_eq_some_iff.1 hsT).2
    rw[e1,e2] at hp
    omega)
   have hTw:=HD0.out.hT
   rw[HTV.out] at hTw
   obtain⟨gr,hA,hrg⟩:=(hTw.le HW.out.le).elem (show (ts.map trC)[k]?=some (trC ts[k]) by rw[List.getElem?_map,e0];rfl)
   have RG:=Aa hrg
   have HRW:=Aa (HD0.out.hR _ (List.mem_of_getElem? e0))
   have q1:IntKind.i64.wrap ((k:Int)+1)=((k+1:Nat):Int):=by rw[IntWalk.i64_in _ (by omega)];simp
   clear e0 hrg hTw hsT
   rw[hA]
   clear hA
   generalize ts[k]=t0 at *
   obtain⟨t1,tv2⟩:=t0
   obtain⟨At,ct,hv2,_,_,_⟩:=HRW.out.cells
   rw[List.length_map] at hv2
   dsimp only at hv2
   subst hv2
   dsimp only at HTI0 HWF1 HNEW HTK HRW
   have hm3:t1.ssrcs.length≤3:=by
    have h9:=HTI0.out.2.1
    rw[Ew,Bool.and_eq_true] at h9
    have:=AY.1 h9.1
    omega
   have hidr:=AY.1 HTI0.out.1
   have HTI:=Aa (show 0≤t1.id∧t1.id≤1000000 by omega)
   go_upto_region 6 with (first | (refine wpList_load_mid rfl 182 (.tmp 25) rfl gr (k*4) rfl (trC (t1,.slice At t1.ssrcs.length ct)) _ RG.out Tryz.underlying182 rfl (by kernel_rfl) ?_) | (refine Ak rfl 182 (.tmp 9) (.tmp 26) (cs:=[.int .i64 t1.id,.int .i64 t1.owner,.int .i64 t1.from_,.slice At t1.ssrcs.length ct]) rfl rfl rfl (by kernel_rfl) (by simp[Value.oneCell']) (heap_alloc_new _ _) rfl ?_;intro w3 hn hg;have HX3:=Aa hn;have HL3:=Aa (((Le.refl wr).alloc _).box1 hg (Nat.le_refl _));clear hn hg))
   have HW3:=Aa (HW.out.next HL3.out)
   generalize wr.heap.size=gx at *
   have k0:=Af HX3.out 0 (.int .i64 t1.id) rfl w3 (Le.refl _)
   have k2:=Af HX3.out 2 (.int .i64 t1.from_) rfl w3 (Le.refl _)
   obtain⟨w4,hr4,hM4,hg4⟩:=HW3.out.fm.putNew G2 Tryz.underlying376 (by rw[List.length_map,List.length_map,List.length_take];omega) (keyInt (CL (by omega) (by omega))) (key:=.int .i64 t1.id) (fun v hv=>by
    obtain⟨y,hy,ey⟩:=List.mem_map.1 hv
    injection ey with ey _
    injection ey with _ ey
    exact HNEW.out y hy ey) (.int .i64 t1.from_)
   have HX5:=Aa (Ai hg4 HX3.out (by intro e;injection e with e;exact HW3.out.fm.ne HX3.out e))
   have HW5:=Aa (HW3.out.put hg4 (t:=t1) (by rw[List.map_append];exact hM4))
   clear hM4 hg4 HX3 HW3 HL3 RG HW
   go_upto_region 7 with (refine BB (vm:=.map (some w.heap.size)) (vy:=.int .i64 t1.id) (vx:=.int .i64 t1.from_) rfl (.tmp 27) (.tmp 29) (.tmp 31) rfl rfl rfl rfl hr4 ?_)
   clear hr4 k0 k2
   have k3:=Af HX5.out 3 (.slice At t1.ssrcs.length ct) rfl w4 (Le.refl _)
   go_wp2_with fail
   clear k3
   go_loopw [6,35] (fun z6 i wj=>∃ (j:Nat) (s6:Value),j≤t1.ssrcs.length∧i=.int .i64 j∧s6=z6∧Hd (Md1 w wj s6 (AP cf.shards ((ts.take k).map (·.1))++(Dp cf.shards t1).take j) ((ts.take k).map (·.1)++[t1]))∧Hd (wj.heap[gx]?=some (.cells #[.int .i64 t1.id,.int .i64 t1.owner,.int .i64 t1.from_,.slice At t1.ssrcs.length ct] 182 (0,0)))) (fun _ i _=>t1.ssrcs.length - (intOf i).toNat)
   case atStart=>exact⟨0,_,Nat.zero_le _,rfl,rfl,Aa (by rw[List.take_zero,List.append_nil];exact HW5.out),HX5⟩
   case round =>
    obtain⟨j,s6,hj,rfl,rfl,HWj,HXj⟩:=hrel
    generalize wr=wj at *
    rcases Nat.lt_or_ge j t1.ssrcs.length with hltj | hgej
    ·have hltJ:(j:Int)<(t1.ssrcs.length:Int):=by omega
     have e1:=List.getElem?_eq_getElem hltj
     have HRT:=Aa (rts_take (n:=cf.shards) e1)
     obtain⟨gq,hA,hrg⟩:=(HRW.out.le HWj.out.le).elem (show (t1.ssrcs.map DI)[j]?=some (DI t1.ssrcs[j]) by rw[List.getElem?_map,e1];rfl)
     generalize t1.ssrcs[j]=xj at *
     have kq:wj.cell? ⟨gq,j,none⟩=some (.int .u32 xj):=by have:=hrg 0 _ (show (DI xj)[0]?=some _ from rfl);simpa using this
     have q2:IntKind.i64.wrap ((j:Int)+1)=((j+1:Nat):Int):=by rw[IntWalk.i64_in _ (by omega)];simp
     clear e1 hrg
     rw[hA]
     go_upto_region 10 with fail
     have HWd:=Aa (HWj.out.next (Le.refl wj).drew)
     have HXd:=Aa (show wj.drew.heap[gx]?=some (.cells #[.int .i64 t1.id,.int .i64 t1.owner,.int .i64 t1.from_,.slice (some ⟨gq,0,none⟩) t1.ssrcs.length ct] 182 (0,0)) by have:=(Le.refl wj).drew.heap HXj.out;rwa [hA] at this)
     have HCd:=Aa (HWd.out.le.heap HC0.out)
     clear kq
     refine' Aj 13 13 40 Le (Is _::Is _::Is _::Is _::Is _::Is _::Is _::Is _::Is _::Is _::Is _::Is _::(fun v W=>BsF s6.ownBlock (rtC (rtOf cf.shards t1 j xj)) 233 v W)::[]) ([]::[]::[]::[2]::[]::[4]::[]::[]::[]::[8]::[7,9]::[1,3,5,6,10]::[11]::[]) (by kernel_rfl) (by kernel_rfl) (by rfl) (by kernel_rfl) (by kernel_rfl) Le.refl (fun _ _ _ h h'=>h.trans h') ⟨St.is,St.is,St.is,St.is,St.is,St.is,St.is,St.is,St.is,St.is,St.is,St.is,(fun _ _ _ hb h=>BsF.gr h (Gr.of_le hb)),trivial⟩ ?m10
     case m10 =>
      simp (maxSteps:=100000000) only [AR,Bv,AK,AC,An,AD,Am,Au,List.set_cons_succ,List.set_cons_zero,List.getElem?_cons_zero,List.getElem?_cons_succ,List.take_succ_cons,List.take_zero,List.drop_succ_cons,List.drop_zero,List.cons_append,List.nil_append,List.length_cons,List.length_nil,Nat.reduceAdd]
      intro x0 x1 x2 x3 x4 x5 x6 x7 x8 x9 x10 x11 x12
      refine⟨⟨?_,?_,?_,?_,?_,?_,?_,?_,?_,?_,?_,?_,?_,trivial⟩,?_⟩
      ·intro wo hw KQ hK;go_simp;exact hK _ _ .r .m
      ·intro wo hw KQ hK;go_simp;exact hK _ _ .r .m
      ·intro wo hw KQ hK;go_simp;exact hK _ _ .r .m
      ·intro wo hw h2 KQ hK;cases h2;have kk:=Af (hw.heap HXd.out) 0 (.int .i64 t1.id) rfl wo (Le.refl _);go_simp;exact hK _ _ .r .m
      ·intro wo hw KQ hK;go_simp;exact hK _ _ .r .m
      ·intro wo hw h4 KQ hK;cases h4;have kk:=Af (hw.heap HXd.out) 2 (.int .i64 t1.from_) rfl wo (Le.refl _);go_simp;exact hK _ _ .r .m
      ·intro wo hw KQ hK;go_simp;exact hK _ _ .r .m
      ·intro wo hw KQ hK;go_simp;exact hK _ _ .r .m
      ·intro wo hw KQ hK;go_simp;exact hK _ _ .r .m
      ·intro wo hw h8 KQ hK;cases h8;have kk:=Af (hw.heap HXd.out) 0 (.int .i64 t1.id) rfl wo (Le.refl _);go_simp;exact hK _ _ .r .m
      ·intro wo hw h7 h9 KQ hK;cases h7;cases h9;go_simp;refine (FD cf.shards (hw.heap HCd.out) hn1 hn4 _ HTI.out).mono ?_;rintro e w' ⟨rfl,hb⟩;exact hK _ _ (Le.mk hb) (Is.mk _ _)
      ·intro wo hw h1 h3 h5 h6 h10 KQ hK;cases h1;cases h3;cases h5;cases h6;cases h10;go_simp;exact hK _ _ .r .m
      ·intro wo hw h11 KQ hK;cases h11;go_simp;exact hK _ _ ((Le.refl _).alloc _) (BsF.new (rtC (rtOf cf.shards t1 j xj)) _ (fun k hk=>Nat.lt_of_lt_of_le (HWd.out.own.lt hk) hw.size))
      ·intro wz hz h0 h1 h2 h3 h4 h5 h6 h7 h8 h9 h10 h11 h12;cases h0;cases h1;cases h2;cases h3;cases h4;cases h5;cases h6;cases h7;cases h8;cases h9;cases h10;cases h11;obtain⟨HBS⟩:=h12;skip
       have HXA:=Aa HXj
       have hlen0:(AP cf.shards ((ts.take k).map (·.1))++(Dp cf.shards t1).take j).length≤1000:=by
        have h1:=Cv cf.shards ((ts.take k).map (·.1)) (fun t ht=>by
         obtain⟨t',ht',rfl⟩:=List.mem_map.1 ht
         have hm:t'.1∈s.tracks:=by rw[← HET.out];exact List.mem_map.2 ⟨t',List.mem_of_mem_take ht',rfl⟩
         have h9:=(HOK.out.tIn _ hm).2.1
         rw[Ew,Bool.and_eq_true] at h9
         have:=AY.1 h9.1
         omega)
        rw[List.length_map,List.length_take] at h1
        rw[List.length_append,List.length_take,Dj]
        omega
       have HLEN0:=Aa hlen0
       clear hlen0
       go_wp2_with (refine Br rfl slRt (.tmp 40) (.tmp 52) rfl HWd.out.own hz rfl rfl ⟨HBS⟩ rfl (by simp[rtC,rtOf,Value.oneCell']) (by have:=HLEN0.out;rw[List.length_map];omega) (by omega) ?_;intro v' w' h1 h2;have HAP:=Aa h1;clear h1 h2)
       have h8:=HWd.out.app HAP.out
       rw[List.append_assoc,← HRT.out] at h8
       refine⟨⟨j+1,_,hltj,by simp,rfl,Aa h8,Aa ?_⟩,by simp only[intOf];omega⟩
       exact HAP.out.heap HWd.out.own HXd.out (by decide)
    ·have hgeJ:¬ (j:Int)<(t1.ssrcs.length:Int):=by omega
     have HWz:=Aa (show Md1 w wj s6 (AP cf.shards ((ts.take (k+1)).map (·.1))) ((ts.take (k+1)).map (·.1)) from by
      have h9:=HWj.out
      rw[List.take_of_length_le (l:=Dp cf.shards t1) (by rw[Dj];exact hgej)] at h9
      rw[HTK.out,show AP cf.shards ((ts.take k).map (·.1)++[t1])=AP cf.shards ((ts.take k).map (·.1))++Dp cf.shards t1 by simp[AP]]
      exact h9)
     go_wp2_with fail
     exact⟨⟨k+1,_,hlt,by simp,rfl,HWz⟩,by simp only[intOf];omega⟩
  ·have hgeI:¬ (k:Int)<(ts.length:Int):=by omega
   have HW1:=Aa (show Md1 w wr s6 (AP cf.shards s.tracks) s.tracks from by have h9:=HW.out;rwa [List.take_of_length_le hge,HET.out] at h9)
   have k19:wr.cell? ⟨c,19,none⟩=some (.slice Asu s.subs.length csu):=by rw[Ae (HW1.out.le.heap HC0.out)];show some X.sv=_;rw[HSV.out]
   clear HW
   go_wp2_with fail
   clear k19
   go_loopw [12,62] (fun z12 i wj=>∃ (j:Nat) (s12:Value),j≤s.subs.length∧i=.int .i64 j∧s12=z12∧Hd (Md2 w wj s6 s12 (AP cf.shards s.tracks) s.tracks (BA cf.shards s.tracks seats (s.subs.take j)))) (fun _ i _=>s.subs.length - (intOf i).toNat)
   case atStart=>exact⟨0,_,Nat.zero_le _,rfl,rfl,Aa ⟨HW1.out.own,AA.nil,HW1.out.fm,HW1.out.le⟩⟩
   case round =>
    obtain⟨j,s12,hj,rfl,rfl,HWj⟩:=hrel
    generalize wr=wj at *
    rcases Nat.lt_or_ge j s.subs.length with hltj | hgej
    ·have hltJ:(j:Int)<(s.subs.length:Int):=by omega
     have e1:=List.getElem?_eq_getElem hltj
     have hxm:=List.mem_of_getElem? e1
     have HTK2:=Aa (show BA cf.shards s.tracks seats (s.subs.take (j+1))=BA cf.shards s.tracks seats (s.subs.take j)++[dwOf cf.shards s.tracks seats s.subs[j]] by rw[List.take_succ_eq_append_getElem hltj,BA,List.map_append];rfl)
     have hsw:=HD0.out.hS
     rw[HSV.out] at hsw
     obtain⟨gr,hA,hrg⟩:=(hsw.le HWj.out.le).elem (show (s.subs.map BC)[j]?=some (BC s.subs[j]) by rw[List.getElem?_map,e1];rfl)
     obtain⟨y,hy,hyw,hyt⟩:=HSE.out _ hxm
     obtain⟨hxp,hxt,_,_⟩:=HOK.out.sIn _ hxm
     obtain⟨p,hp,hpw⟩:=Bs.1 hxp
     obtain⟨tr,htr,htid⟩:=By.1 hxt
     have hpr:=AY.1 (HOK.out.pIn p hp).1
     have htrr:=AY.1 (HOK.out.tIn tr htr).1
     have RG:=Aa hrg
     have q2:IntKind.i64.wrap ((j:Int)+1)=((j+1:Nat):Int):=by rw[IntWalk.i64_in _ (by omega)];simp
     clear e1 hrg hsw hxm hxp hxt
     rw[hA]
     clear hA
     generalize s.subs[j]=x at *
     have HXI:=Aa (show 0≤x.track∧x.track≤1000000 by omega)
     obtain⟨lit,hlit⟩:=Hn (a:=x.who) (b:=x.track) (CL (by omega) (by omega)) (CL (by omega) (by omega))
     have HLT:=Aa hlit
     have HYM:=Aa (show (Hy (x.who,x.track),FV y)∈seats.map Ht from List.mem_map.2 ⟨y,hy,by rw[Ht,hyw,hyt]⟩)
     have HLI:=Aa (keyInt (a:=x.track) (CL (by omega) (by omega)))
     have HTM:=Aa (show (Value.int .i64 x.track,Value.int .i64 tr.from_)∈s.tracks.map fromE from List.mem_map.2 ⟨tr,htr,by rw[fromE,htid]⟩)
     have HDW:=Aa (show dwC (dwOf cf.shards s.tracks seats x)=[.int .u32 y.ssrc,.int .i64 y.ref.slot,.int .u32 y.ref.turn,.int .i64 x.who,.int .i64 x.track,.int .i64 (x.track%(cf.shards:Int)),.int .i64 tr.from_,.int .i64 x.layer,.int .i64 x.tid,.bool x.muted] by
      have h1:=BY HND.out hy
      have h2:=If HOK.out.tracks htr
      rw[hyw,hyt] at h1
      rw[htid] at h2
      simp only[dwC,dwOf,h1,h2])
     clear hlit hy hyw hyt hp hpw htr htid hpr htrr
     go_upto_region 17 with (first | (refine wpList_load_mid rfl 133 (.tmp 64) rfl gr (j*5) rfl (BC x) _ RG.out Tryz.underlying133 rfl (by kernel_rfl) ?_) | (refine Ak rfl 133 (.tmp 14) (.tmp 65) (cs:=[.int .i64 x.who,.int .i64 x.track,.int .i64 x.layer,.int .i64 x.tid,.bool x.muted]) rfl rfl rfl (by kernel_rfl) (by simp[Value.oneCell']) (heap_alloc_new _ _) rfl ?_;intro w3 hn hg;have HX3:=Aa hn;have HL3:=Aa (((Le.refl wj).alloc _).box1 hg (Nat.le_refl _));clear hn hg))
     have HW3:=Aa (HWj.out.next HL3.out)
     generalize wj.heap.size=gx at *
     clear HL3 RG HWj
     generalize w3=wj at *
     have HXd:=Aa ((Le.refl wj).drew.heap HX3.out)
     have HCd:=Aa ((HW3.out.le.trans (Le.refl wj).drew).heap HC0.out)
     have HSD:=Aa (HS0.out.le (HW3.out.le.trans (Le.refl wj).drew))
     refine' Aj 11 10 66 Le (Is _::Is _::Is _::Is _::Is _::Is _::Is _::Is _::Is _::Is _::(fun v W=>∃ g,v=.pointer (some ⟨g,0,none⟩)∧W.heap[g]?=some (.cells #[.int .i64 0,.int .u32 0,.int .u32 0] 298 (0,0))∧wj.drew.heap.size≤g)::[]) ([]::[0]::[1]::[2]::[]::[4]::[]::[6]::[5,7]::[3,8]::[]::[]) (by kernel_rfl) (by kernel_rfl) (by rfl) (by kernel_rfl) (by kernel_rfl) Le.refl (fun _ _ _ h h'=>h.trans h') ⟨St.is,St.is,St.is,St.is,St.is,St.is,St.is,St.is,St.is,St.is,(fun _ _ _ hb h=>Exists.elim h fun g h=>⟨g,h.1,hb.heap h.2.1,h.2.2⟩),trivial⟩ ?m17
     case m17 =>
      simp (maxSteps:=100000000) only [AR,Bv,AK,AC,An,AD,Am,Au,Act.put,List.setIfInBounds_toArray,List.set_cons_succ,List.set_cons_zero,List.getElem?_cons_zero,List.getElem?_cons_succ,List.take_succ_cons,List.take_zero,List.drop_succ_cons,List.drop_zero,List.cons_append,List.nil_append,List.length_cons,List.length_nil,Nat.reduceAdd]
      intro x0 x1 x2 x3 x4 x5 x6 x7 x8 x9 x10
      refine⟨⟨?_,?_,?_,?_,?_,?_,?_,?_,?_,?_,?_,trivial⟩,?_⟩
      ·intro wo hw KQ hK;go_simp;exact hK _ _ .r .m
      ·intro wo hw h0 KQ hK;cases h0;go_simp;exact hK _ _ .r .m
      ·intro wo hw h1 KQ hK;cases h1;go_simp;exact hK _ _ .r .m
      ·intro wo hw h2 KQ hK;cases h2;have kk:=Af (hw.heap HCd.out) 22 (.map (some X.sm)) rfl wo (Le.refl _);go_simp;exact hK _ _ .r .m
      ·intro wo hw KQ hK;go_simp;exact hK _ _ .r .m
      ·intro wo hw h4 KQ hK;cases h4;have kk:=Af (hw.heap HXd.out) 0 (.int .i64 x.who) rfl wo (Le.refl _);go_simp;exact hK _ _ .r .m
      ·intro wo hw KQ hK;go_simp;exact hK _ _ .r .m
      ·intro wo hw h6 KQ hK;cases h6;have kk:=Af (hw.heap HXd.out) 1 (.int .i64 x.track) rfl wo (Le.refl _);go_simp;exact hK _ _ .r .m
      ·intro wo hw h5 h7 KQ hK;cases h5;cases h7;go_simp;exact hK _ _ .r .m
      ·intro wo hw h3 h8 KQ hK;cases h3;cases h8;have hr9:=(HSD.out.le hw).hit DW Tryz.underlying153 (show (zeroValue 298).run Tryz.prog wo=.ok (.agg #[.int .i64 0,.int .u32 0,.int .u32 0]) wo by kernel_rfl) HLT.out HYM.out;simp only[FV,Hy] at hr9;have hr9:=hr9.2;go_simp;exact hK _ _ .r .m
      ·intro wo hw KQ hK;go_simp;exact hK _ _ ((Le.refl _).alloc _) ⟨_,rfl,heap_alloc_new _ _,hw.size⟩
      ·intro wz hz h0 h1 h2 h3 h4 h5 h6 h7 h8 h9 h10;cases h0;cases h1;cases h2;cases h3;cases h4;cases h5;cases h6;cases h7;cases h8;cases h9;obtain⟨gs,rfl,HGS,hgs⟩:=h10;skip
       go_upto_region 18 with (refine Ak rfl 298 (.tmp 15) (.tmp 75) (cs:=[.int .i64 y.ref.slot,.int .u32 y.ref.turn,.int .u32 y.ssrc]) rfl rfl rfl (by kernel_rfl) (by simp[Value.oneCell']) HGS rfl ?_;intro w5 hn hg;have HG5:=Aa hn;have HL5:=Aa ((Le.refl wj).drew.trans (hz.box1 hg hgs));clear hn hg)
       have HWe:=Aa (HW3.out.next (HL5.out.trans (Le.refl w5).drew))
       have HGd:=Aa ((Le.refl w5).drew.heap HG5.out)
       have HXe:=Aa ((HL5.out.trans (Le.refl w5).drew).heap HX3.out)
       have HCe:=Aa (HWe.out.le.heap HC0.out)
       have HFD:=Aa HWe.out.fm
       clear HGS HG5 HXd HCd HSD hz
       refine' Aj 25 25 76 Le (Is _::Is _::Is _::Is _::Is _::Is _::Is _::Is _::Is _::Is _::Is _::Is _::Is _::Is _::Is _::Is _::Is _::Is _::Is _::Is _::Is _::Is _::Is _::Is _::(fun v W=>BsF s12.ownBlock [.int .u32 y.ssrc,.int .i64 y.ref.slot,.int .u32 y.ref.turn,.int .i64 x.who,.int .i64 x.track,.int .i64 (x.track%(cf.shards:Int)),.int .i64 tr.from_,.int .i64 x.layer,.int .i64 x.tid,.bool x.muted] 137 v W)::[]) ([]::[]::[1]::[]::[3]::[]::[5]::[]::[7]::[]::[]::[10]::[9,11]::[]::[]::[14]::[13,15]::[]::[17]::[]::[19]::[]::[21]::[2,4,6,8,12,16,18,20,22]::[23]::[]) (by kernel_rfl) (by kernel_rfl) (by rfl) (by kernel_rfl) (by kernel_rfl) Le.refl (fun _ _ _ h h'=>h.trans h') ⟨St.is,St.is,St.is,St.is,St.is,St.is,St.is,St.is,St.is,St.is,St.is,St.is,St.is,St.is,St.is,St.is,St.is,St.is,St.is,St.is,St.is,St.is,St.is,St.is,(fun _ _ _ hb h=>BsF.gr h (Gr.of_le hb)),trivial⟩ ?m18
       case m18 =>
        simp (maxSteps:=100000000) only [AR,Bv,AK,AC,An,AD,Am,Au,List.set_cons_succ,List.set_cons_zero,List.getElem?_cons_zero,List.getElem?_cons_succ,List.take_succ_cons,List.take_zero,List.drop_succ_cons,List.drop_zero,List.cons_append,List.nil_append,List.length_cons,List.length_nil,Nat.reduceAdd]
        intro x0 x1 x2 x3 x4 x5 x6 x7 x8 x9 x10 x11 x12 x13 x14 x15 x16 x17 x18 x19 x20 x21 x22 x23 x24
        refine⟨⟨?_,?_,?_,?_,?_,?_,?_,?_,?_,?_,?_,?_,?_,?_,?_,?_,?_,?_,?_,?_,?_,?_,?_,?_,?_,trivial⟩,?_⟩
        ·intro wo hw KQ hK;go_simp;exact hK _ _ .r .m
        ·intro wo hw KQ hK;go_simp;exact hK _ _ .r .m
        ·intro wo hw h1 KQ hK;cases h1;have kk:=Af (hw.heap HGd.out) 2 (.int .u32 y.ssrc) rfl wo (Le.refl _);go_simp;exact hK _ _ .r .m
        ·intro wo hw KQ hK;go_simp;exact hK _ _ .r .m
        ·intro wo hw h3 KQ hK;cases h3;refine cast (if_pos (show Region.wanted _ _=true from rfl)).symm ?_;have hz:=(hw.heap HGd.out);refine Cb 135 (.tmp 79) rfl [] [.int .i64 y.ref.slot,.int .u32 y.ref.turn] [.int .u32 y.ssrc] _ rfl Tryz.underlying135 rfl (by kernel_rfl) hz ?_;exact hK _ _ .r .m
        ·intro wo hw KQ hK;go_simp;exact hK _ _ .r .m
        ·intro wo hw h5 KQ hK;cases h5;have kk:=Af (hw.heap HXe.out) 0 (.int .i64 x.who) rfl wo (Le.refl _);go_simp;exact hK _ _ .r .m
        ·intro wo hw KQ hK;go_simp;exact hK _ _ .r .m
        ·intro wo hw h7 KQ hK;cases h7;have kk:=Af (hw.heap HXe.out) 1 (.int .i64 x.track) rfl wo (Le.refl _);go_simp;exact hK _ _ .r .m
        ·intro wo hw KQ hK;go_simp;exact hK _ _ .r .m
        ·intro wo hw KQ hK;go_simp;exact hK _ _ .r .m
        ·intro wo hw h10 KQ hK;cases h10;have kk:=Af (hw.heap HXe.out) 1 (.int .i64 x.track) rfl wo (Le.refl _);go_simp;exact hK _ _ .r .m
        ·intro wo hw h9 h11 KQ hK;cases h9;cases h11;go_simp;refine (FD cf.shards (hw.heap HCe.out) hn1 hn4 _ HXI.out).mono ?_;rintro e w' ⟨rfl,hb⟩;exact hK _ _ (Le.mk hb) (Is.mk _ _)
        ·intro wo hw KQ hK;go_simp;exact hK _ _ .r .m
        ·intro wo hw KQ hK;go_simp;exact hK _ _ .r .m
        ·intro wo hw h14 KQ hK;cases h14;have kk:=Af (hw.heap HXe.out) 1 (.int .i64 x.track) rfl wo (Le.refl _);go_simp;exact hK _ _ .r .m
        ·intro wo hw h13 h15 KQ hK;cases h13;cases h15;have hr9:=(HFD.out.le hw).hit G2 Tryz.underlying376 (Tryz.zeroValue3 wo) HLI.out HTM.out;have hr9:=hr9.2;go_simp;exact hK _ _ .r .m
        ·intro wo hw KQ hK;go_simp;exact hK _ _ .r .m
        ·intro wo hw h17 KQ hK;cases h17;have kk:=Af (hw.heap HXe.out) 2 (.int .i64 x.layer) rfl wo (Le.refl _);go_simp;exact hK _ _ .r .m
        ·intro wo hw KQ hK;go_simp;exact hK _ _ .r .m
        ·intro wo hw h19 KQ hK;cases h19;have kk:=Af (hw.heap HXe.out) 3 (.int .i64 x.tid) rfl wo (Le.refl _);go_simp;exact hK _ _ .r .m
        ·intro wo hw KQ hK;go_simp;exact hK _ _ .r .m
        ·intro wo hw h21 KQ hK;cases h21;have kk:=Af (hw.heap HXe.out) 4 (.bool x.muted) rfl wo (Le.refl _);go_simp;exact hK _ _ .r .m
        ·intro wo hw h2 h4 h6 h8 h12 h16 h18 h20 h22 KQ hK;cases h2;cases h4;cases h6;cases h8;cases h12;cases h16;cases h18;cases h20;cases h22;go_simp;exact hK _ _ .r .m
        ·intro wo hw h23 KQ hK;cases h23;go_simp;exact hK _ _ ((Le.refl _).alloc _) (BsF.new [.int .u32 y.ssrc,.int .i64 y.ref.slot,.int .u32 y.ref.turn,.int .i64 x.who,.int .i64 x.track,.int .i64 (x.track%(cf.shards:Int)),.int .i64 tr.from_,.int .i64 x.layer,.int .i64 x.tid,.bool x.muted] _ (fun k hk=>Nat.lt_of_lt_of_le (HWe.out.own2.lt hk) hw.size))
        ·intro wz hz h0 h1 h2 h3 h4 h5 h6 h7 h8 h9 h10 h11 h12 h13 h14 h15 h16 h17 h18 h19 h20 h21 h22 h23 h24;cases h0;cases h1;cases h2;cases h3;cases h4;cases h5;cases h6;cases h7;cases h8;cases h9;cases h10;cases h11;cases h12;cases h13;cases h14;cases h15;cases h16;cases h17;cases h18;cases h19;cases h20;cases h21;cases h22;cases h23;obtain⟨HBS⟩:=h24;skip
         have hlen0:(BA cf.shards s.tracks seats (s.subs.take j)).length≤1000:=by rw[BA,List.length_map,List.length_take];omega
         have HLEN0:=Aa hlen0
         clear hlen0
         go_wp2_with (refine Br rfl slDw (.tmp 76) (.tmp 100) rfl HWe.out.own2 hz rfl rfl ⟨HBS⟩ rfl (by simp[Value.oneCell']) (by have:=HLEN0.out;rw[List.length_map];omega) (by omega) ?_;intro v' w' h1 h2;have HAP:=Aa h1;clear h1 h2)
         have h7:=HAP.out
         rw[← HDW.out] at h7
         have h8:=HWe.out.app h7
         rw[← HTK2.out] at h8
         exact⟨⟨j+1,_,hltj,by simp,rfl,Aa h8⟩,by simp only[intOf];omega⟩
    ·have hgeJ:¬ (j:Int)<(s.subs.length:Int):=by omega
     have HW2:=Aa (show Md2 w wj s6 s12 (AP cf.shards s.tracks) s.tracks (BA cf.shards s.tracks seats s.subs) from by have h9:=HWj.out;rwa [List.take_of_length_le hgej] at h9)
     clear HWj
     go_wp2_with fail
     refine (tbMake wj e _ _ HW2.out.own HW2.out.own2 HFIT.out).mono ?_
     rintro en w' ⟨tb,rfl,hT,hle⟩
     have HT:=Aa hT
     have HL:=Aa hle
     clear hT hle
     go_wp2_with fail
     rw[HR.out]
     exact⟨tb,rfl,HT.out.mono (fun k hk=>Nat.le_trans HW2.out.le.size hk),HW2.out.le.trans HL.out⟩
end Go.Proofs.YtmcndlofaanjiaaGreat
