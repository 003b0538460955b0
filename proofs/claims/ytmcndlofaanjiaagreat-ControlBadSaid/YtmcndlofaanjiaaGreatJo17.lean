/- Texts of one claim, laid together: TbM Pin Pin2 -/
import Derived.Test.YtmcndlofaanjiaaGreatJo09
import Derived.Test.YtmcndlofaanjiaaGreatJo08
import Derived.Test.YtmcndlofaanjiaaGreatJo16
import Derived.Test.YtmcndlofaanjiaaGreatJo06
/- table.Make. (Written by gen_tb.py.) -/
namespace Go.Proofs.YtmcndlofaanjiaaGreat
open Go.RowKit
set_option linter.unusedVariables false
set_option maxRecDepth 100000
set_option maxHeartbeats 8000000
def rtC (r:Rt):List Value:=[.int .u32 r.ssrc,.int .i64 r.track,.int .i64 r.from_,.int .i64 r.layer,.int .i64 r.shard]
def dwC (d:Dw):List Value:=[.int .u32 d.ssrc,.int .i64 d.ref.slot,.int .u32 d.ref.turn,.int .i64 d.who,.int .i64 d.track,.int .i64 d.shard,.int .i64 d.from_,.int .i64 d.layer,.int .i64 d.tid,.bool d.muted]
def rtE (r:Rt):Value×Value:=(.int .u32 r.ssrc,.agg (rtC r).toArray)
def dwE (d:Dw):Value×Value:=(.int .u32 d.ssrc,.agg (dwC d).toArray)
def Cr (p:Int×Int):Value:=.agg #[.int .i64 p.1,.int .i64 p.2]
def refE (r:Rf):Value:=.agg #[.int .i64 r.slot,.int .u32 r.turn]
structure TbB (N:Nat→Prop) (w:World) (t br bd e:Nat) (rs:List Rt) (ds:List Dw):Prop where
 ht:w.heap[t]?=some (.cells #[.int .u64 e,.map (some br),.map (some bd)] 187 (0,0))
 hr:Bz Tryz.prog w br 110 (rs.map rtE)
 hd:Bz Tryz.prog w bd 110 (ds.map dwE)
 Nt:N t
 Nr:N br
 Nd:N bd
def DY (N:Nat→Prop) (w:World) (t:Nat) (tb:Tb):Prop:=∃ br bd,TbB N w t br bd tb.epoch tb.routes tb.downs
theorem DY.fp {N S:Nat→Prop} {w w':World} {t:Nat} {tb:Tb} (h:DY N w t tb) (hf:Fp S w w') (hs:∀ k,S k→¬ N k):DY N w' t tb:=by
 obtain⟨br,bd,h⟩:=h
 exact⟨br,bd,hf.heap h.ht (fun e=>hs _ e h.Nt),h.hr.fp hf (fun e=>hs _ e h.Nr),h.hd.fp hf (fun e=>hs _ e h.Nd),h.Nt,h.Nr,h.Nd⟩
theorem DY.le {N:Nat→Prop} {w w':World} {t:Nat} {tb:Tb} (h:DY N w t tb) (hl:Le w w'):DY N w' t tb:=h.fp (S:=fun _=>False) (Fp.of_le hl) (fun _ h=>h.elim)
theorem CU {P:Program} {o:Oper} {a:Act} {w w':World} {K:Act→World→Prop} {Q:Exit→Act→World→Prop} {t:TypeId} (m y:Operand) (hop:o.op=.mapEntry t m y) {vm vy v:Value} (hm:a.eval m=vm) (hy:a.eval y=vy) (hr:(Instr.mapEntry t vm vy).run P w=.ok v w') (h:K (a.put o.dst v) w'):o.wp P a w K Q:=by
 unfold Oper.wp
 simp[execOp,hop,hm,hy,hr,Result.andThen]
 exact h
def EnR (b:Nat) (o:Obj) (w w':World):Prop:=Gr (some b) w w'∧∀ x,w.heap[b]?=some x→w'.heap[b]?=some x∨w'.heap[b]?=some o
theorem EnR.of_le {b:Nat} {o:Obj} {w w':World} (h:Le w w'):EnR b o w w':=⟨Gr.of_le h,fun x hx=>.inl (h.heap hx)⟩
theorem EnR.trans {b:Nat} {o:Obj} {w w' w'':World} (h:EnR b o w w') (h':EnR b o w' w''):EnR b o w w'':=⟨h.1.trans h'.1,fun x hx=>(h.2 x hx).elim (fun e=>h'.2 x e) (fun e=>(h'.2 o e).elim .inr .inr)⟩
theorem Ce.blk {P:Program} {w:World} {b:Nat} {k:TypeId} {α:Type} {enc:α→Value} {ks:List α} (h:Ce P w b k enc ks):∃ es c,w.heap[b]?=some (.map es c):=by
 obtain⟨l,h,_⟩:=h
 obtain⟨D,⟨es,c,hb,_⟩,_⟩:=h.out
 exact⟨es,c,hb⟩
theorem Ce.ne {P:Program} {w:World} {b g:Nat} {k:TypeId} {α:Type} {enc:α→Value} {ks:List α} {cs:Array Value} {T:TypeId} {fr:Nat×Nat} (h:Ce P w b k enc ks) (hg:w.heap[g]?=some (.cells cs T fr)):b≠g:=by
 obtain⟨l,h,_⟩:=h
 exact h.ne hg
theorem Fs {α:Type} [DecidableEq α] {ks:List α} {x:α} (h:x∉ks):addK ks x=ks++[x]:=by rw[addK,if_neg h]
structure Mk1 (w wr:World) (e:Nat) (rs:List Rt) (ps:List (Int×Int)):Prop where
 ht:wr.heap[w.heap.size+1+1]?=some (.cells #[.int .u64 e,.map (some w.heap.size),.map (some (w.heap.size+1))] 187 (0,0))
 hr:Bz Tryz.prog wr w.heap.size 110 (rs.map rtE)
 hd:Bz Tryz.prog wr (w.heap.size+1) 110 []
 hl:Ce Tryz.prog wr (w.heap.size+1+1+1) 413 Cr ps
 le:Le w wr
structure Mk2 (w wr:World) (n1 e:Nat) (rs:List Rt) (ps:List (Int×Int)) (ds:List Dw) (qs:List (Int×Int)) (fs:List Rf):Prop where
 ht:wr.heap[w.heap.size+1+1]?=some (.cells #[.int .u64 e,.map (some w.heap.size),.map (some (w.heap.size+1))] 187 (0,0))
 hr:Bz Tryz.prog wr w.heap.size 110 (rs.map rtE)
 hd:Bz Tryz.prog wr (w.heap.size+1) 110 (ds.map dwE)
 hl:Ce Tryz.prog wr (w.heap.size+1+1+1) 413 Cr ps
 hp:Ce Tryz.prog wr n1 413 Cr qs
 hf:Ce Tryz.prog wr (n1+1) 135 refE fs
 le:Le w wr
 n1:w.heap.size+1+1+1<n1
section
variable {w wr w':World} {n1 e:Nat} {rs:List Rt} {ds:List Dw} {ps qs:List (Int×Int)} {fs:List Rf}
theorem Mk1.next (h:Mk1 w wr e rs ps) (hl:Le wr w'):Mk1 w w' e rs ps:=⟨hl.heap h.ht,h.hr.le hl,h.hd.le hl,h.hl.le hl,h.le.trans hl⟩
theorem Mk2.next (h:Mk2 w wr n1 e rs ps ds qs fs) (hl:Le wr w'):Mk2 w w' n1 e rs ps ds qs fs:=⟨hl.heap h.ht,h.hr.le hl,h.hd.le hl,h.hl.le hl,h.hp.le hl,h.hf.le hl,h.le.trans hl,h.n1⟩
theorem Mk1.put (h:Mk1 w wr e rs ps) {rs':List Rt} (hf:Fp (fun k=>k=w.heap.size) wr w') (hv:Bz Tryz.prog w' w.heap.size 110 (rs'.map rtE)):Mk1 w w' e rs' ps :=
 ⟨hf.heap h.ht (by omega),hv,h.hd.fp hf (by omega),h.hl.same (hf.block _ h.hl.lt (by omega)),Fp.le_new h.le hf (by omega)⟩
theorem Mk1.cnt (h:Mk1 w wr e rs ps) {ps':List (Int×Int)} (hf:Fp (fun k=>k=w.heap.size+1+1+1) wr w') (hv:Ce Tryz.prog w' (w.heap.size+1+1+1) 413 Cr ps'):Mk1 w w' e rs ps' :=
 ⟨hf.heap h.ht (by omega),h.hr.fp hf (by omega),h.hd.fp hf (by omega),hv,Fp.le_new h.le hf (by omega)⟩
theorem Mk2.put (h:Mk2 w wr n1 e rs ps ds qs fs) {ds':List Dw} (hf:Fp (fun k=>k=w.heap.size+1) wr w') (hv:Bz Tryz.prog w' (w.heap.size+1) 110 (ds'.map dwE)):Mk2 w w' n1 e rs ps ds' qs fs:=by
 have hn:=h.n1
 exact⟨hf.heap h.ht (by omega),h.hr.fp hf (by omega),hv,h.hl.same (hf.block _ h.hl.lt (by omega)),h.hp.same (hf.block _ h.hp.lt (by omega)),h.hf.same (hf.block _ h.hf.lt (by omega)),Fp.le_new h.le hf (by omega),h.n1⟩
theorem Mk2.cnt (h:Mk2 w wr n1 e rs ps ds qs fs) {qs':List (Int×Int)} (hf:Fp (fun k=>k=n1) wr w') (hv:Ce Tryz.prog w' n1 413 Cr qs'):Mk2 w w' n1 e rs ps ds qs' fs:=by
 have hn:=h.n1
 exact⟨hf.heap h.ht (by omega),h.hr.fp hf (by omega),h.hd.fp hf (by omega),h.hl.same (hf.block _ h.hl.lt (by omega)),hv,h.hf.same (hf.block _ h.hf.lt (by omega)),Fp.le_new h.le hf (by omega),h.n1⟩
theorem Mk2.cntf (h:Mk2 w wr n1 e rs ps ds qs fs) {fs':List Rf} (hf:Fp (fun k=>k=n1+1) wr w') (hv:Ce Tryz.prog w' (n1+1) 135 refE fs'):Mk2 w w' n1 e rs ps ds qs fs':=by
 have hn:=h.n1
 exact⟨hf.heap h.ht (by omega),h.hr.fp hf (by omega),h.hd.fp hf (by omega),h.hl.same (hf.block _ h.hl.lt (by omega)),h.hp.same (hf.block _ h.hp.lt (by omega)),hv,Fp.le_new h.le hf (by omega),h.n1⟩
theorem Le.newg {g:Nat} (h:Le w wr) (hg:wr.grownBy w' (some g)) (hn:w.heap.size≤g):Le w w':=Le.mk (h.out.grown hg h.size (by rintro k e;injection e with e;omega))
theorem FT {x y:Int×Int} (h:Cr y=Cr x):y=x:=by
 simp only[Cr,Value.agg.injEq,Array.mk.injEq,List.cons.injEq,Value.int.injEq,true_and,and_true] at h
 exact Prod.ext h.1 h.2
theorem refE_inj {x y:Rf} (h:refE y=refE x):y=x:=by
 obtain⟨a,b⟩:=x;obtain⟨c,d⟩:=y
 simp only[refE,Value.agg.injEq,Array.mk.injEq,List.cons.injEq,Value.int.injEq,true_and,and_true] at h
 rw[h.1,Int.ofNat.inj h.2]
end
theorem BX {α β:Type} {f:α→β} {l:List α} {k:Nat} {x:α} (hf:(l.map f).Nodup) (hx:l[k]?=some x):f x∉(l.take k).map f:=fun hm=>by
 obtain⟨y,hy,e⟩:=List.mem_map.1 hm
 obtain⟨j,hj,ej⟩:=List.getElem_of_mem hy
 rw[List.length_take] at hj
 rw[List.getElem_take] at ej
 obtain⟨hk,hk2⟩:=List.getElem?_eq_some_iff.1 hx
 have:=List.pairwise_iff_getElem.1 hf j k (by rw[List.length_map];omega) (by rw[List.length_map];exact hk) (by omega)
 rw[List.getElem_map,List.getElem_map,ej,hk2] at this
 exact this e
structure TbFit (rs:List Rt) (ds:List Dw):Prop where
 r1:(rs.map Rt.ssrc).Nodup
 r2:(rs.map fun r=>(r.track,r.layer)).Nodup
 d1:(ds.map Dw.ssrc).Nodup
 d2:(ds.map fun d=>(d.who,d.track)).Nodup
 d3:(ds.map Dw.ref).Nodup
 rin:∀ r∈rs,r.ssrc<2147483648∧(Lit.int .i64 r.track).wf=true∧(Lit.int .i64 r.layer).wf=true
 din:∀ d∈ds,2147483648≤d.ssrc∧d.ssrc<4294967296∧(Lit.int .i64 d.who).wf=true∧(Lit.int .i64 d.track).wf=true∧(Lit.int .i64 d.ref.slot).wf=true∧d.ref.turn<4294967296
 nr:rs.length≤1000
 nd:ds.length≤1000
def MakeP (w:World) (e:Nat) (rs:List Rt) (ds:List Dw) (en:Ending) (w':World):Prop :=
 ∃ t,en=.returned (.tuple #[.pointer (some ⟨t,0,none⟩),.int .i64 0])∧DY (fun k=>w.heap.size≤k) w' t ⟨e,rs,ds⟩∧Le w w'
theorem tbMake {M M':Nat→Prop} (w:World) (e:Nat) (routes:List Rt) (downs:List Dw) {rv dv:Value} (hr:AA M w 233 5 rv (routes.map rtC)) (hd:AA M' w 137 10 dv (downs.map dwC)) (hf:TbFit routes downs) :
  Calls Tryz.prog 177 #[.int .u64 e,rv,dv] w (MakeP w e routes downs):=by
 have hmm:=@run_makeMap Tryz.prog
 obtain⟨Ar,cr,hrv,_,_,_⟩:=hr.cells
 obtain⟨Ad,cd,hdv,_,_,_⟩:=hd.cells
 rw[List.length_map] at hrv hdv
 subst hrv hdv
 have HRO:=Aa hr
 have HDO:=Aa hd
 have HF:=Aa hf
 have HRP:=Aa hf.rin
 have HDP:=Aa hf.din
 have hnr:=hf.nr
 have hnd:=hf.nd
 obtain⟨R,hR⟩:∃ R,R=MakeP w e routes downs:=⟨_,rfl⟩
 rw[← hR]
 have HR:=Aa hR
 clear hR hr hd hf
 go_enter Tryz.func177,Tryz.ntmps177
 go_upto_region 3 with fail
 have HI:=Aa (show Mk1 w ((((w.alloc (.map #[] 0)).alloc (.map #[] 0)).alloc (.cells #[.int .u64 e,.map (some w.heap.size),.map (some (w.heap.size+1))] 187)).alloc (.map #[] 0)) e (routes.take 0) ((routes.take 0).map fun r=>(r.track,r.layer)) from by
  have s1:(w.alloc (.map #[] 0)).heap.size=w.heap.size+1:=by show (w.heap.push _).size=_;rw[Array.size_push]
  have s2:((w.alloc (.map #[] 0)).alloc (.map #[] 0)).heap.size=w.heap.size+1+1:=by show ((w.heap.push _).push _).size=_;rw[Array.size_push,Array.size_push]
  have s3:(((w.alloc (.map #[] 0)).alloc (.map #[] 0)).alloc (.cells #[.int .u64 e,.map (some w.heap.size),.map (some (w.heap.size+1))] 187)).heap.size=w.heap.size+1+1+1:=by show (((w.heap.push _).push _).push _).size=_;rw[Array.size_push,Array.size_push,Array.size_push]
  have l1:=(Le.refl (w.alloc (.map #[] 0))).alloc (.map #[] 0)
  have l2:=(Le.refl ((w.alloc (.map #[] 0)).alloc (.map #[] 0))).alloc (.cells #[.int .u64 e,.map (some w.heap.size),.map (some (w.heap.size+1))] 187)
  have l3:=(Le.refl (((w.alloc (.map #[] 0)).alloc (.map #[] 0)).alloc (.cells #[.int .u64 e,.map (some w.heap.size),.map (some (w.heap.size+1))] 187))).alloc (.map #[] 0)
  have h2:=heap_alloc_new ((w.alloc (.map #[] 0)).alloc (.map #[] 0)) (.cells #[.int .u64 e,.map (some w.heap.size),.map (some (w.heap.size+1))] 187)
  rw[s2] at h2
  have m1:=Bz.made Tryz.prog (w.alloc (.map #[] 0)) 110
  rw[s1] at m1
  have m3:=Ce.made Tryz.prog (((w.alloc (.map #[] 0)).alloc (.map #[] 0)).alloc (.cells #[.int .u64 e,.map (some w.heap.size),.map (some (w.heap.size+1))] 187)) 413 Cr
  rw[s3] at m3
  exact⟨l3.heap h2,(Bz.made Tryz.prog w 110).le ((l1.trans l2).trans l3),m1.le (l2.trans l3),m3,((((Le.refl w).alloc _).alloc _).alloc _).alloc _⟩)
 generalize (((w.alloc (.map #[] 0)).alloc (.map #[] 0)).alloc (.cells #[.int .u64 e,.map (some w.heap.size),.map (some (w.heap.size+1))] 187)).alloc (.map #[] 0)=w1 at *
 go_wp2_with fail
 go_loopw [24] (fun i wr=>∃ k:Nat,k≤routes.length∧i=.int .i64 k∧Hd (Mk1 w wr e (routes.take k) ((routes.take k).map fun r=>(r.track,r.layer)))) (fun i _=>routes.length - (intOf i).toNat)
 case atStart=>exact⟨0,Nat.zero_le _,rfl,HI⟩
 case round =>
  obtain⟨k,hk,rfl,HW⟩:=hrel
  rcases Nat.lt_or_ge k routes.length with hlt | hge
  ·have hltI:(k:Int)<(routes.length:Int):=by omega
   have e0:=List.getElem?_eq_getElem hlt
   have HNX:=Aa (fun (p:Rt→Prop) (hp:∀ x∈routes,p x)=>hp _ (List.mem_of_getElem? e0))
   have HTK:=Aa (show routes.take (k+1)=routes.take k++[routes[k]] by rw[List.take_succ_eq_append_getElem hlt])
   have HN1:=Aa (BX HF.out.r1 e0)
   have HN2:=Aa (BX HF.out.r2 e0)
   obtain⟨gr,hA,hrg⟩:=(HRO.out.le HW.out.le).elem (show (routes.map rtC)[k]?=some (rtC routes[k]) by rw[List.getElem?_map,e0];rfl)
   have HAA:=Aa hA
   have RG:=Aa hrg
   have q1:IntKind.i64.wrap ((k:Int)+1)=((k+1:Nat):Int):=by rw[IntWalk.i64_in _ (by omega)];simp
   have HPX:=Aa (HNX.out _ HRP.out)
   clear e0 hrg HNX
   rw[hA]
   clear hA
   generalize routes[k]=r at *
   go_upto_region 6 with (first | (refine wpList_load_mid rfl 233 (.tmp 26) rfl gr (k*5) rfl (rtC r) _ RG.out Tryz.underlying233 rfl (by kernel_rfl) ?_) | (refine Ak rfl 233 (.tmp 11) (.tmp 27) (cs:=[.int .u32 r.ssrc,.int .i64 r.track,.int .i64 r.from_,.int .i64 r.layer,.int .i64 r.shard]) rfl rfl rfl (by kernel_rfl) (by simp[Value.oneCell']) (heap_alloc_new _ _) rfl ?_;intro w3 hn hg;have HX3:=Aa hn;have HL3:=Aa (((Le.refl wr).alloc _).box1 hg (Nat.le_refl _));clear hn hg))
   have HW3:=Aa (HW.out.next HL3.out)
   have HT6:=Aa ((Le.refl w3).drew.heap HW3.out.ht)
   have HX6:=Aa ((Le.refl w3).drew.heap HX3.out)
   generalize wr.heap.size=gx at *
   refine' Aj 7 7 28 Le (Is _::Is _::Is _::Is _::Is _::Is _::Is _::[]) ([]::[0]::[1]::[2]::[]::[4]::[]::[]) (by kernel_rfl) (by kernel_rfl) (by rfl) (by kernel_rfl) (by kernel_rfl) Le.refl (fun _ _ _ h h'=>h.trans h') ⟨St.is,St.is,St.is,St.is,St.is,St.is,St.is,trivial⟩ ?m6
   case m6 =>
    simp (maxSteps:=100000000) only [AR,Bv,AK,AC,An,AD,Am,Au,List.set_cons_succ,List.set_cons_zero,List.getElem?_cons_zero,List.getElem?_cons_succ,List.take_succ_cons,List.take_zero,List.drop_succ_cons,List.drop_zero,List.cons_append,List.nil_append,List.length_cons,List.length_nil,Nat.reduceAdd]
    intro x0 x1 x2 x3 x4 x5 x6
    refine⟨⟨?_,?_,?_,?_,?_,?_,?_,trivial⟩,?_⟩
    ·intro wo hw KQ hK;go_simp;exact hK _ _ .r .m
    ·intro wo hw h0 KQ hK;cases h0;go_simp;exact hK _ _ .r .m
    ·intro wo hw h1 KQ hK;cases h1;go_simp;exact hK _ _ .r .m
    ·intro wo hw h2 KQ hK;cases h2;have kk:=Af (hw.heap HT6.out) 1 (.map (some w.heap.size)) rfl wo (Le.refl _);go_simp;exact hK _ _ .r .m
    ·intro wo hw KQ hK;go_simp;exact hK _ _ .r .m
    ·intro wo hw h4 KQ hK;cases h4;have kk:=Af (hw.heap HX6.out) 0 (.int .u32 r.ssrc) rfl wo (Le.refl _);go_simp;exact hK _ _ .r .m
    ·intro wo hw KQ hK;refine cast (if_pos (show Region.wanted _ _=true from rfl)).symm ?_;have hz:=(hw.heap HX6.out);refine Av 233 (.tmp 11) rfl (cs:=[.int .u32 r.ssrc,.int .i64 r.track,.int .i64 r.from_,.int .i64 r.layer,.int .i64 r.shard]) _ rfl Tryz.underlying233 rfl (by kernel_rfl) hz ?_;exact hK _ _ .r .m
    ·intro wz hz h0 h1 h2 h3 h4 h5 h6;cases h0;cases h1;cases h2;cases h3;cases h4;cases h5;cases h6;skip
     have HW4:=Aa (HW3.out.next ((Le.refl w3).drew.trans hz))
     have HX4:=Aa (hz.heap HX6.out)
     clear HW3 HT6 HX6 HX3 HL3 hz RG HW
     obtain⟨w4,hr4,hM4,hg4⟩:=HW4.out.hr.putNew keyed32 Tryz.underlying184 (by rw[List.length_map,List.length_take];omega) (key32 (k:=r.ssrc) (by have:=HPX.out;omega)) (fun v hv=>by
      obtain⟨y,hy,ey⟩:=List.mem_map.1 hv
      injection ey with ey _
      injection ey with _ ey
      exact HN1.out (List.mem_map.2 ⟨y,hy,Int.ofNat.inj ey⟩)) (.agg (rtC r).toArray)
     have hM4':Bz Tryz.prog w4 w.heap.size 110 ((routes.take (k+1)).map rtE):=by rw[HTK.out,List.map_append];exact hM4
     have HX5:=Aa (Ai hg4 HX4.out (by intro e;injection e with e;exact HW4.out.hr.ne HX4.out e))
     have HW5:=Aa (HW4.out.put (Fp.of_grown hg4 rfl) hM4')
     clear hM4 hM4' hg4 HX4 HW4
     go_upto_region 7 with (refine BB rfl (.tmp 31) (.tmp 33) (.tmp 34) rfl rfl rfl rfl hr4 ?_)
     clear hr4
     have HV7:=Aa (HW5.out.hl.le (Le.refl w4).drew)
     have HX7:=Aa ((Le.refl w4).drew.heap HX5.out)
     have HBN:=Aa (show some (w.heap.size+1+1+1)≠some gx by intro e;injection e with e;exact HV7.out.ne HX7.out e)
     obtain⟨lit7,hk7⟩:=keyPair HPX.out.2.1 HPX.out.2.2
     have HK7:=Aa (show keyOf Tryz.prog 413 (Cr (r.track,r.layer))=some lit7 from hk7)
     obtain⟨nn,st,es1,c1,hA,hB,hC⟩:=HV7.out.plus Ft Tryz.underlying411 Tryz.zeroValue3 (by rw[List.length_map,List.length_take];omega) (r.track,r.layer) HK7.out (fun y hy=>FT hy)
     obtain⟨es0,c0,hm⟩:=HV7.out.blk
     have HA:=Aa hA
     have HB:=Aa hB
     have HCC:=Aa hC
     have HM:=Aa hm
     clear hA hB hC hm hk7
     refine' AB 8 10 10 35 Le (EnR (w.heap.size+1+1+1) (.map es1 c1)) (IsD _::IsD _::IsD _::IsD _::IsD _::IsD _::(fun _ v _=>∃ n:Int,v=.int .i64 n)::(fun _ v _=>∃ n:Int,v=.int .i64 n)::(fun _ v W=>v=.tuple #[.int .i64 nn,.int .i64 st]∧W.heap[(w.heap.size+1+1+1)]?=some (.map es1 c1))::IsD _::[]) ([]::[]::[1]::[]::[3]::[2,4]::[0,5]::[6]::[0,5]::[8]::[]) (by kernel_rfl) (by kernel_rfl) (by rfl) (by kernel_rfl) (by kernel_rfl) Le.refl (fun _ _ _ h h'=>h.trans h') (fun _ _ _ h h'=>h.trans h') (fun _ _ h=>EnR.of_le h) ⟨StQ.is,StQ.is,StQ.is,StQ.is,StQ.is,StQ.is,(fun _ _ _ _ _ h=>h),(fun _ _ _ _ _ h=>h),(fun _ _ _ _ hb h=>⟨h.1,hb.heap h.2⟩),StQ.is,trivial⟩ ?m7
     case m7 =>
      simp (maxSteps:=100000000) only [AR,DU,Nat.reduceBEq,cond_true,cond_false,AU,AH,AE,B6,AD,Am,Au,List.set_cons_succ,List.set_cons_zero,List.map_cons,List.getElem?_cons_zero,List.getElem?_cons_succ,Option.getD_some,List.map_nil,List.take_succ_cons,List.take_zero,List.drop_succ_cons,List.drop_zero,List.cons_append,List.nil_append,List.length_cons,List.length_nil,Nat.reduceAdd]
      intro x0 x1 x2 x3 x4 x5 x6 x7 x8 x9
      refine⟨⟨?_,?_,?_,?_,?_,?_,?_,?_,?_,?_,trivial⟩,?_⟩
      ·intro wo hw KQ hK;go_simp;exact hK _ _ .r .m
      ·intro wo hw KQ hK;go_simp;exact hK _ _ .r .m
      ·intro wo hw h1 KQ hK;cases h1;have kk:=Af (hw.1.heap HX7.out HBN.out) 1 (.int .i64 r.track) rfl wo (Le.refl _);go_simp;exact hK _ _ .r .m
      ·intro wo hw KQ hK;go_simp;exact hK _ _ .r .m
      ·intro wo hw h3 KQ hK;cases h3;have kk:=Af (hw.1.heap HX7.out HBN.out) 3 (.int .i64 r.layer) rfl wo (Le.refl _);go_simp;exact hK _ _ .r .m
      ·intro wo hw h2 h4 KQ hK;cases h2;cases h4;go_simp;exact hK _ _ .r .m
      ·intro wo hw h0 h5 KQ hK;cases h0;cases h5;obtain⟨ks6,hv6⟩:∃ ks',Ce Tryz.prog wo (w.heap.size+1+1+1) 413 Cr ks':=(hw.2 _ HM.out).elim (fun e=>⟨_,HV7.out.same (e.trans HM.out.symm)⟩) (fun e=>HB.out wo e);obtain⟨n6,hr6⟩:=hv6.look Ft Tryz.underlying411 Tryz.zeroValue3 (r.track,r.layer) HK7.out;simp only[Cr] at hr6;go_simp;exact hK _ _ (Le.refl _) ⟨_,rfl⟩
      ·intro wo hw h6 KQ hK;obtain⟨n6,rfl⟩:=h6;go_simp;exact hK _ _ (Le.refl _) ⟨_,rfl⟩
      ·intro wo hw h0 h5 KQ hK;cases h0;cases h5;refine cast (if_pos (show Region.wanted _ _=true from rfl)).symm ?_;refine CU (.tmp 35) (.tmp 40) rfl rfl rfl (HA.out wo ((hw.heap HM.out).trans HM.out.symm)) ?_;exact hK _ _ ⟨⟨Bw _ _ _⟩,fun _ _=>.inr (ChangeMaps.heap_setBlock_same (hw.heap HM.out) _)⟩ ⟨rfl,ChangeMaps.heap_setBlock_same (hw.heap HM.out) _⟩
      ·intro wo hw h8 KQ hK;obtain⟨rfl,HE8⟩:=h8;go_simp;exact hK _ _ .r .m
      ·intro wz hz h0 h1 h2 h3 h4 h5 h6 h7 h8 h9;cases h0;cases h1;cases h2;cases h3;cases h4;cases h5;obtain⟨n6,rfl⟩:=h6;obtain⟨n7,rfl⟩:=h7;obtain⟨rfl,HE8⟩:=h8;cases h9;skip
       obtain⟨w5,hr5,hg5,hv5⟩:=HCC.out wz n7 HE8
       have HF5:=Aa ((Fp.of_le (S:=fun k=>k=(w.heap.size+1+1+1)) (Le.refl w4).drew).trans (((Fp.of_gr hz.1).mono (fun k hk=>by injection hk with hk;exact hk.symm)).trans (Fp.of_grown hg5 rfl)))
       rw[Fs HN2.out] at hv5
       have hv6:Ce Tryz.prog w5 (w.heap.size+1+1+1) 413 Cr ((routes.take (k+1)).map fun r=>(r.track,r.layer)):=by rw[HTK.out,List.map_append];exact hv5
       have HW5n:=Aa (HW5.out.cnt HF5.out hv6)
       have HX5n:=Aa (HF5.out.heap HX5.out (fun e=>HBN.out (by rw[e])))
       clear HV7 HX7 HBN HK7 HA HB HCC HM hv5 hv6 hg5 HW5 HX5 hz HF5 HE8
       go_upto_region 8 with (refine B5 rfl (.tmp 35) (.tmp 44) (.tmp 42) rfl rfl rfl rfl hr5 ?_)
       clear hr5
       have k0:=Af HX5n.out 0 (.int .u32 r.ssrc) rfl w5 (Le.refl _)
       have hnl:¬ (2147483648:Int)≤(r.ssrc:Int):=by have:=HPX.out.1;omega
       go_wp2_with fail
       exact⟨⟨k+1,hlt,by simp,HW5n⟩,by simp only[intOf];omega⟩
  ·have hgeI:¬ (k:Int)<(routes.length:Int):=by omega
   obtain rfl:k=routes.length:=by omega
   have HW9:=Aa (show Mk1 w wr e routes (routes.map fun r=>(r.track,r.layer)) from by have:=HW.out;rwa [List.take_of_length_le (Nat.le_refl _)] at this)
   clear HW
   go_upto_region 13 with fail
   have HI:=Aa (show Mk2 w ((wr.alloc (.map #[] 0)).alloc (.map #[] 0)) wr.heap.size e routes (routes.map fun r=>(r.track,r.layer)) (downs.take 0) ((downs.take 0).map fun d=>(d.who,d.track)) ((downs.take 0).map fun d=>d.ref) from by
    have s1:(wr.alloc (.map #[] 0)).heap.size=wr.heap.size+1:=by show (wr.heap.push _).size=_;rw[Array.size_push]
    have l1:=(Le.refl wr).alloc (.map #[] 0)
    have l2:=(Le.refl (wr.alloc (.map #[] 0))).alloc (.map #[] 0)
    have m1:=Ce.made Tryz.prog wr 413 Cr
    have m2:=Ce.made Tryz.prog (wr.alloc (.map #[] 0)) 135 refE
    rw[s1] at m2
    have h9:=HW9.out.next (l1.trans l2)
    exact⟨h9.ht,h9.hr,h9.hd,h9.hl,m1.le l2,m2,h9.le,HW9.out.hl.lt⟩)
   clear HW9
   generalize (wr.alloc (.map #[] 0)).alloc (.map #[] 0)=w2 at *
   generalize wr.heap.size=n1 at *
   go_wp2_with fail
   go_loopw [53] (fun i wr=>∃ k:Nat,k≤downs.length∧i=.int .i64 k∧Hd (Mk2 w wr n1 e routes (routes.map fun r=>(r.track,r.layer)) (downs.take k) ((downs.take k).map fun d=>(d.who,d.track)) ((downs.take k).map fun d=>d.ref))) (fun i _=>downs.length - (intOf i).toNat)
   case atStart=>exact⟨0,Nat.zero_le _,rfl,HI⟩
   case round =>
    obtain⟨k,hk,rfl,HW⟩:=hrel
    rcases Nat.lt_or_ge k downs.length with hlt | hge
    ·have hltI:(k:Int)<(downs.length:Int):=by omega
     have e0:=List.getElem?_eq_getElem hlt
     have HNX:=Aa (fun (p:Dw→Prop) (hp:∀ x∈downs,p x)=>hp _ (List.mem_of_getElem? e0))
     have HTK:=Aa (show downs.take (k+1)=downs.take k++[downs[k]] by rw[List.take_succ_eq_append_getElem hlt])
     have HN1:=Aa (BX HF.out.d1 e0)
     have HN2:=Aa (BX HF.out.d2 e0)
     have HN3:=Aa (BX HF.out.d3 e0)
     obtain⟨gr,hA,hrg⟩:=(HDO.out.le HW.out.le).elem (show (downs.map dwC)[k]?=some (dwC downs[k]) by rw[List.getElem?_map,e0];rfl)
     have HAA:=Aa hA
     have RG:=Aa hrg
     have q1:IntKind.i64.wrap ((k:Int)+1)=((k+1:Nat):Int):=by rw[IntWalk.i64_in _ (by omega)];simp
     have HPX:=Aa (HNX.out _ HDP.out)
     clear e0 hrg HNX
     rw[hA]
     clear hA
     generalize downs[k]=d at *
     go_upto_region 16 with (first | (refine wpList_load_mid rfl 137 (.tmp 55) rfl gr (k*10) rfl (dwC d) _ RG.out Tryz.underlying137 rfl (by kernel_rfl) ?_) | (refine Ak rfl 137 (.tmp 15) (.tmp 56) (cs:=[.int .u32 d.ssrc,.int .i64 d.ref.slot,.int .u32 d.ref.turn,.int .i64 d.who,.int .i64 d.track,.int .i64 d.shard,.int .i64 d.from_,.int .i64 d.layer,.int .i64 d.tid,.bool d.muted]) rfl rfl rfl (by kernel_rfl) (by simp[Value.oneCell']) (heap_alloc_new _ _) rfl ?_;intro w3 hn hg;have HX3:=Aa hn;have HL3:=Aa (((Le.refl wr).alloc _).box1 hg (Nat.le_refl _));clear hn hg))
     have HW3:=Aa (HW.out.next HL3.out)
     have HT6:=Aa ((Le.refl w3).drew.heap HW3.out.ht)
     have HX6:=Aa ((Le.refl w3).drew.heap HX3.out)
     generalize wr.heap.size=gx at *
     refine' Aj 7 7 57 Le (Is _::Is _::Is _::Is _::Is _::Is _::Is _::[]) ([]::[0]::[1]::[2]::[]::[4]::[]::[]) (by kernel_rfl) (by kernel_rfl) (by rfl) (by kernel_rfl) (by kernel_rfl) Le.refl (fun _ _ _ h h'=>h.trans h') ⟨St.is,St.is,St.is,St.is,St.is,St.is,St.is,trivial⟩ ?m16
     case m16 =>
      simp (maxSteps:=100000000) only [AR,Bv,AK,AC,An,AD,Am,Au,List.set_cons_succ,List.set_cons_zero,List.getElem?_cons_zero,List.getElem?_cons_succ,List.take_succ_cons,List.take_zero,List.drop_succ_cons,List.drop_zero,List.cons_append,List.nil_append,List.length_cons,List.length_nil,Nat.reduceAdd]
      intro x0 x1 x2 x3 x4 x5 x6
      refine⟨⟨?_,?_,?_,?_,?_,?_,?_,trivial⟩,?_⟩
      ·intro wo hw KQ hK;go_simp;exact hK _ _ .r .m
      ·intro wo hw h0 KQ hK;cases h0;go_simp;exact hK _ _ .r .m
      ·intro wo hw h1 KQ hK;cases h1;go_simp;exact hK _ _ .r .m
      ·intro wo hw h2 KQ hK;cases h2;have kk:=Af (hw.heap HT6.out) 2 (.map (some (w.heap.size+1))) rfl wo (Le.refl _);go_simp;exact hK _ _ .r .m
      ·intro wo hw KQ hK;go_simp;exact hK _ _ .r .m
      ·intro wo hw h4 KQ hK;cases h4;have kk:=Af (hw.heap HX6.out) 0 (.int .u32 d.ssrc) rfl wo (Le.refl _);go_simp;exact hK _ _ .r .m
      ·intro wo hw KQ hK;refine cast (if_pos (show Region.wanted _ _=true from rfl)).symm ?_;have hz:=(hw.heap HX6.out);refine Av 137 (.tmp 15) rfl (cs:=[.int .u32 d.ssrc,.int .i64 d.ref.slot,.int .u32 d.ref.turn,.int .i64 d.who,.int .i64 d.track,.int .i64 d.shard,.int .i64 d.from_,.int .i64 d.layer,.int .i64 d.tid,.bool d.muted]) _ rfl Tryz.underlying137 rfl (by kernel_rfl) hz ?_;exact hK _ _ .r .m
      ·intro wz hz h0 h1 h2 h3 h4 h5 h6;cases h0;cases h1;cases h2;cases h3;cases h4;cases h5;cases h6;skip
       have HW4:=Aa (HW3.out.next ((Le.refl w3).drew.trans hz))
       have HX4:=Aa (hz.heap HX6.out)
       clear HW3 HT6 HX6 HX3 HL3 hz RG HW
       obtain⟨w4,hr4,hM4,hg4⟩:=HW4.out.hd.putNew keyed32 Tryz.underlying185 (by rw[List.length_map,List.length_take];omega) (key32 (k:=d.ssrc) (by have:=HPX.out;omega)) (fun v hv=>by
        obtain⟨y,hy,ey⟩:=List.mem_map.1 hv
        injection ey with ey _
        injection ey with _ ey
        exact HN1.out (List.mem_map.2 ⟨y,hy,Int.ofNat.inj ey⟩)) (.agg (dwC d).toArray)
       have hM4':Bz Tryz.prog w4 (w.heap.size+1) 110 ((downs.take (k+1)).map dwE):=by rw[HTK.out,List.map_append];exact hM4
       have HX5:=Aa (Ai hg4 HX4.out (by intro e;injection e with e;exact HW4.out.hd.ne HX4.out e))
       have HW5:=Aa (HW4.out.put (Fp.of_grown hg4 rfl) hM4')
       clear hM4 hM4' hg4 HX4 HW4
       go_upto_region 17 with (refine BB rfl (.tmp 60) (.tmp 62) (.tmp 63) rfl rfl rfl rfl hr4 ?_)
       clear hr4
       have HV7:=Aa (HW5.out.hp.le (Le.refl w4).drew)
       have HX7:=Aa ((Le.refl w4).drew.heap HX5.out)
       have HBN:=Aa (show some n1≠some gx by intro e;injection e with e;exact HV7.out.ne HX7.out e)
       obtain⟨lit7,hk7⟩:=keyPair HPX.out.2.2.1 HPX.out.2.2.2.1
       have HK7:=Aa (show keyOf Tryz.prog 413 (Cr (d.who,d.track))=some lit7 from hk7)
       obtain⟨nn,st,es1,c1,hA,hB,hC⟩:=HV7.out.plus Ft Tryz.underlying411 Tryz.zeroValue3 (by rw[List.length_map,List.length_take];omega) (d.who,d.track) HK7.out (fun y hy=>FT hy)
       obtain⟨es0,c0,hm⟩:=HV7.out.blk
       have HA:=Aa hA
       have HB:=Aa hB
       have HCC:=Aa hC
       have HM:=Aa hm
       clear hA hB hC hm hk7
       refine' AB 8 10 10 64 Le (EnR n1 (.map es1 c1)) (IsD _::IsD _::IsD _::IsD _::IsD _::IsD _::(fun _ v _=>∃ n:Int,v=.int .i64 n)::(fun _ v _=>∃ n:Int,v=.int .i64 n)::(fun _ v W=>v=.tuple #[.int .i64 nn,.int .i64 st]∧W.heap[n1]?=some (.map es1 c1))::IsD _::[]) ([]::[]::[1]::[]::[3]::[2,4]::[0,5]::[6]::[0,5]::[8]::[]) (by kernel_rfl) (by kernel_rfl) (by rfl) (by kernel_rfl) (by kernel_rfl) Le.refl (fun _ _ _ h h'=>h.trans h') (fun _ _ _ h h'=>h.trans h') (fun _ _ h=>EnR.of_le h) ⟨StQ.is,StQ.is,StQ.is,StQ.is,StQ.is,StQ.is,(fun _ _ _ _ _ h=>h),(fun _ _ _ _ _ h=>h),(fun _ _ _ _ hb h=>⟨h.1,hb.heap h.2⟩),StQ.is,trivial⟩ ?m17
       case m17 =>
        simp (maxSteps:=100000000) only [AR,DU,Nat.reduceBEq,cond_true,cond_false,AU,AH,AE,B6,AD,Am,Au,List.set_cons_succ,List.set_cons_zero,List.map_cons,List.getElem?_cons_zero,List.getElem?_cons_succ,Option.getD_some,List.map_nil,List.take_succ_cons,List.take_zero,List.drop_succ_cons,List.drop_zero,List.cons_append,List.nil_append,List.length_cons,List.length_nil,Nat.reduceAdd]
        intro x0 x1 x2 x3 x4 x5 x6 x7 x8 x9
        refine⟨⟨?_,?_,?_,?_,?_,?_,?_,?_,?_,?_,trivial⟩,?_⟩
        ·intro wo hw KQ hK;go_simp;exact hK _ _ .r .m
        ·intro wo hw KQ hK;go_simp;exact hK _ _ .r .m
        ·intro wo hw h1 KQ hK;cases h1;have kk:=Af (hw.1.heap HX7.out HBN.out) 3 (.int .i64 d.who) rfl wo (Le.refl _);go_simp;exact hK _ _ .r .m
        ·intro wo hw KQ hK;go_simp;exact hK _ _ .r .m
        ·intro wo hw h3 KQ hK;cases h3;have kk:=Af (hw.1.heap HX7.out HBN.out) 4 (.int .i64 d.track) rfl wo (Le.refl _);go_simp;exact hK _ _ .r .m
        ·intro wo hw h2 h4 KQ hK;cases h2;cases h4;go_simp;exact hK _ _ .r .m
        ·intro wo hw h0 h5 KQ hK;cases h0;cases h5;obtain⟨ks6,hv6⟩:∃ ks',Ce Tryz.prog wo n1 413 Cr ks':=(hw.2 _ HM.out).elim (fun e=>⟨_,HV7.out.same (e.trans HM.out.symm)⟩) (fun e=>HB.out wo e);obtain⟨n6,hr6⟩:=hv6.look Ft Tryz.underlying411 Tryz.zeroValue3 (d.who,d.track) HK7.out;simp only[Cr] at hr6;go_simp;exact hK _ _ (Le.refl _) ⟨_,rfl⟩
        ·intro wo hw h6 KQ hK;obtain⟨n6,rfl⟩:=h6;go_simp;exact hK _ _ (Le.refl _) ⟨_,rfl⟩
        ·intro wo hw h0 h5 KQ hK;cases h0;cases h5;refine cast (if_pos (show Region.wanted _ _=true from rfl)).symm ?_;refine CU (.tmp 64) (.tmp 69) rfl rfl rfl (HA.out wo ((hw.heap HM.out).trans HM.out.symm)) ?_;exact hK _ _ ⟨⟨Bw _ _ _⟩,fun _ _=>.inr (ChangeMaps.heap_setBlock_same (hw.heap HM.out) _)⟩ ⟨rfl,ChangeMaps.heap_setBlock_same (hw.heap HM.out) _⟩
        ·intro wo hw h8 KQ hK;obtain⟨rfl,HE8⟩:=h8;go_simp;exact hK _ _ .r .m
        ·intro wz hz h0 h1 h2 h3 h4 h5 h6 h7 h8 h9;cases h0;cases h1;cases h2;cases h3;cases h4;cases h5;obtain⟨n6,rfl⟩:=h6;obtain⟨n7,rfl⟩:=h7;obtain⟨rfl,HE8⟩:=h8;cases h9;skip
         obtain⟨w5,hr5,hg5,hv5⟩:=HCC.out wz n7 HE8
         have HF5:=Aa ((Fp.of_le (S:=fun k=>k=n1) (Le.refl w4).drew).trans (((Fp.of_gr hz.1).mono (fun k hk=>by injection hk with hk;exact hk.symm)).trans (Fp.of_grown hg5 rfl)))
         rw[Fs HN2.out] at hv5
         have hv6:Ce Tryz.prog w5 n1 413 Cr ((downs.take (k+1)).map fun d=>(d.who,d.track)):=by rw[HTK.out,List.map_append];exact hv5
         have HW5n:=Aa (HW5.out.cnt HF5.out hv6)
         have HX5n:=Aa (HF5.out.heap HX5.out (fun e=>HBN.out (by rw[e])))
         clear HV7 HX7 HBN HK7 HA HB HCC HM hv5 hv6 hg5 HW5 HX5 hz HF5 HE8
         go_upto_region 18 with (refine B5 rfl (.tmp 64) (.tmp 73) (.tmp 71) rfl rfl rfl rfl hr5 ?_)
         clear hr5
         have HV7:=Aa (HW5n.out.hf.le (Le.refl w5).drew)
         have HX7:=Aa ((Le.refl w5).drew.heap HX5n.out)
         have HBN:=Aa (show some (n1+1)≠some gx by intro e;injection e with e;exact HV7.out.ne HX7.out e)
         obtain⟨lit7,hk7⟩:=keyRef HPX.out.2.2.2.2.1 HPX.out.2.2.2.2.2
         have HK7:=Aa (show keyOf Tryz.prog 135 (refE d.ref)=some lit7 from hk7)
         obtain⟨nn,st,es1,c1,hA,hB,hC⟩:=HV7.out.plus lawRef Tryz.underlying414 Tryz.zeroValue3 (by rw[List.length_map,List.length_take];omega) d.ref HK7.out (fun y hy=>refE_inj hy)
         obtain⟨es0,c0,hm⟩:=HV7.out.blk
         have HA:=Aa hA
         have HB:=Aa hB
         have HCC:=Aa hC
         have HM:=Aa hm
         clear hA hB hC hm hk7
         refine' AB 5 7 7 74 Le (EnR (n1+1) (.map es1 c1)) (IsD _::IsD _::IsD _::(fun _ v _=>∃ n:Int,v=.int .i64 n)::(fun _ v _=>∃ n:Int,v=.int .i64 n)::(fun _ v W=>v=.tuple #[.int .i64 nn,.int .i64 st]∧W.heap[(n1+1)]?=some (.map es1 c1))::IsD _::[]) ([]::[]::[1]::[0,2]::[3]::[0,2]::[5]::[]) (by kernel_rfl) (by kernel_rfl) (by rfl) (by kernel_rfl) (by kernel_rfl) Le.refl (fun _ _ _ h h'=>h.trans h') (fun _ _ _ h h'=>h.trans h') (fun _ _ h=>EnR.of_le h) ⟨StQ.is,StQ.is,StQ.is,(fun _ _ _ _ _ h=>h),(fun _ _ _ _ _ h=>h),(fun _ _ _ _ hb h=>⟨h.1,hb.heap h.2⟩),StQ.is,trivial⟩ ?m18
         case m18 =>
          simp (maxSteps:=100000000) only [AR,DU,Nat.reduceBEq,cond_true,cond_false,AU,AH,AE,B6,AD,Am,Au,List.set_cons_succ,List.set_cons_zero,List.map_cons,List.getElem?_cons_zero,List.getElem?_cons_succ,Option.getD_some,List.map_nil,List.take_succ_cons,List.take_zero,List.drop_succ_cons,List.drop_zero,List.cons_append,List.nil_append,List.length_cons,List.length_nil,Nat.reduceAdd]
          intro x0 x1 x2 x3 x4 x5 x6
          refine⟨⟨?_,?_,?_,?_,?_,?_,?_,trivial⟩,?_⟩
          ·intro wo hw KQ hK;go_simp;exact hK _ _ .r .m
          ·intro wo hw KQ hK;go_simp;exact hK _ _ .r .m
          ·intro wo hw h1 KQ hK;cases h1;refine cast (if_pos (show Region.wanted _ _=true from rfl)).symm ?_;have hz:=(hw.1.heap HX7.out HBN.out);refine Cb 135 (.tmp 75) rfl [.int .u32 d.ssrc] [.int .i64 d.ref.slot,.int .u32 d.ref.turn] [.int .i64 d.who,.int .i64 d.track,.int .i64 d.shard,.int .i64 d.from_,.int .i64 d.layer,.int .i64 d.tid,.bool d.muted] _ rfl Tryz.underlying135 rfl (by kernel_rfl) hz ?_;exact hK _ _ .r .m
          ·intro wo hw h0 h2 KQ hK;cases h0;cases h2;obtain⟨ks6,hv6⟩:∃ ks',Ce Tryz.prog wo (n1+1) 135 refE ks':=(hw.2 _ HM.out).elim (fun e=>⟨_,HV7.out.same (e.trans HM.out.symm)⟩) (fun e=>HB.out wo e);obtain⟨n6,hr6⟩:=hv6.look lawRef Tryz.underlying414 Tryz.zeroValue3 d.ref HK7.out;simp only[refE] at hr6;go_simp;exact hK _ _ (Le.refl _) ⟨_,rfl⟩
          ·intro wo hw h3 KQ hK;obtain⟨n6,rfl⟩:=h3;go_simp;exact hK _ _ (Le.refl _) ⟨_,rfl⟩
          ·intro wo hw h0 h2 KQ hK;cases h0;cases h2;refine cast (if_pos (show Region.wanted _ _=true from rfl)).symm ?_;refine CU (.tmp 74) (.tmp 76) rfl rfl rfl (HA.out wo ((hw.heap HM.out).trans HM.out.symm)) ?_;exact hK _ _ ⟨⟨Bw _ _ _⟩,fun _ _=>.inr (ChangeMaps.heap_setBlock_same (hw.heap HM.out) _)⟩ ⟨rfl,ChangeMaps.heap_setBlock_same (hw.heap HM.out) _⟩
          ·intro wo hw h5 KQ hK;obtain⟨rfl,HE8⟩:=h5;go_simp;exact hK _ _ .r .m
          ·intro wz hz h0 h1 h2 h3 h4 h5 h6;cases h0;cases h1;cases h2;obtain⟨n6,rfl⟩:=h3;obtain⟨n7,rfl⟩:=h4;obtain⟨rfl,HE8⟩:=h5;cases h6;skip
           obtain⟨w6,hr5,hg5,hv5⟩:=HCC.out wz n7 HE8
           have HF5:=Aa ((Fp.of_le (S:=fun k=>k=(n1+1)) (Le.refl w5).drew).trans (((Fp.of_gr hz.1).mono (fun k hk=>by injection hk with hk;exact hk.symm)).trans (Fp.of_grown hg5 rfl)))
           rw[Fs HN3.out] at hv5
           have hv6:Ce Tryz.prog w6 (n1+1) 135 refE ((downs.take (k+1)).map fun d=>d.ref):=by rw[HTK.out,List.map_append];exact hv5
           have HW5nn:=Aa (HW5n.out.cntf HF5.out hv6)
           have HX5nn:=Aa (HF5.out.heap HX5n.out (fun e=>HBN.out (by rw[e])))
           clear HV7 HX7 HBN HK7 HA HB HCC HM hv5 hv6 hg5 HW5n HX5n hz HF5 HE8
           go_upto_region 19 with (refine B5 rfl (.tmp 74) (.tmp 80) (.tmp 78) rfl rfl rfl rfl hr5 ?_)
           clear hr5
           have k0:=Af HX5nn.out 0 (.int .u32 d.ssrc) rfl w6 (Le.refl _)
           have hnl:¬ (d.ssrc:Int)<2147483648:=by have:=HPX.out.1;omega
           go_wp2_with fail
           exact⟨⟨k+1,hlt,by simp,HW5nn⟩,by simp only[intOf];omega⟩
    ·have hgeI:¬ (k:Int)<(downs.length:Int):=by omega
     obtain rfl:k=downs.length:=by omega
     have HW9:=Aa (show Mk2 w wr n1 e routes (routes.map fun r=>(r.track,r.layer)) downs (downs.map fun d=>(d.who,d.track)) (downs.map fun d=>d.ref) from by have:=HW.out;rwa [List.take_of_length_le (Nat.le_refl _)] at this)
     clear HW
     have hl1:=fun ty=>HW9.out.hr.len Tryz.underlying184 ty
     have hl2:=fun ty=>HW9.out.hl.len Tryz.underlying411 ty
     have hl3:=fun ty=>HW9.out.hd.len Tryz.underlying185 ty
     have hl4:=fun ty=>HW9.out.hp.len Tryz.underlying411 ty
     have hl5:=fun ty=>HW9.out.hf.len Tryz.underlying414 ty
     simp only[List.length_map] at hl1 hl2 hl3 hl4 hl5
     have c1:wr.cell? ⟨w.heap.size+1+1,1,none⟩=some (.map (some w.heap.size)):=Ae HW9.out.ht 1
     have c2:wr.cell? ⟨w.heap.size+1+1,2,none⟩=some (.map (some (w.heap.size+1))):=Ae HW9.out.ht 2
     have qa:IntKind.i64.wrap ((routes.length:Int)+routes.length)=(routes.length:Int)+routes.length:=IntWalk.i64_in _ (by omega)
     have qb:IntKind.i64.wrap (2*(routes.length:Int))=2*(routes.length:Int):=IntWalk.i64_in _ (by omega)
     have qc:IntKind.i64.wrap ((downs.length:Int)+downs.length)=(downs.length:Int)+downs.length:=IntWalk.i64_in _ (by omega)
     have qd:IntKind.i64.wrap ((downs.length:Int)+downs.length+downs.length)=(downs.length:Int)+downs.length+downs.length:=IntWalk.i64_in _ (by omega)
     have qe:IntKind.i64.wrap (3*(downs.length:Int))=3*(downs.length:Int):=IntWalk.i64_in _ (by omega)
     have t1:¬ (routes.length:Int)+routes.length<2*(routes.length:Int):=by omega
     have t2:¬ (downs.length:Int)+downs.length+downs.length<3*(downs.length:Int):=by omega
     go_wp2_with fail
     rw[HR.out]
     exact⟨_,rfl,⟨_,_,⟨HW9.out.ht,HW9.out.hr,HW9.out.hd,by omega,Nat.le_refl _,by omega⟩⟩,HW9.out.le⟩
def wkC (k:Wk):List Value:=[.int .u64 k.at_,.int .u64 k.sees,.bool k.looks]
def wtC (x:Rf×Nat):List Value:=[.int .i64 x.1.slot,.int .u32 x.1.turn,.int .u64 x.2]
structure PnB (M:Nat→Prop) (w:World) (p Bl:Nat) (wv:Value) (pn:Pn):Prop where
 hp:w.heap[p]?=some (.cells #[.slice (some ⟨Bl,0,none⟩) pn.l.length pn.l.length,wv] 205 (0,0))
 hB:∃ cur:List Value,w.heap[Bl]?=some (.cells cur.toArray 313 (0,0))∧cur.length=pn.l.length*3∧Cz cur 3 (pn.l.map wkC)
 hW:AA M w 320 3 wv (pn.waits.map wtC)
 Mp:M p
 MB:M Bl
 n4:1≤pn.l.length∧pn.l.length≤4
 m64:pn.waits.length≤64
def Gi (M:Nat→Prop) (w:World) (p:Nat) (pn:Pn):Prop:=∃ Bl wv,PnB M w p Bl wv pn
section
variable {M M':Nat→Prop} {w w':World} {p Bl:Nat} {wv:Value} {pn:Pn}
theorem PnB.fp {S:Nat→Prop} (h:PnB M w p Bl wv pn) (hf:Fp S w w') (hs:∀ k,S k→¬ M k):PnB M w' p Bl wv pn:=by
 obtain⟨cur,hB,hl,hc⟩:=h.hB
 exact⟨hf.heap h.hp (fun e=>hs _ e h.Mp),⟨cur,hf.heap hB (fun e=>hs _ e h.MB),hl,hc⟩,h.hW.fp hf hs,h.Mp,h.MB,h.n4,h.m64⟩
theorem PnB.le (h:PnB M w p Bl wv pn) (hl:Le w w'):PnB M w' p Bl wv pn:=h.fp (S:=fun _=>False) (Fp.of_le hl) (fun _ h=>h.elim)
theorem PnB.mono (h:PnB M w p Bl wv pn) (hm:∀ k,k<w.heap.size→M k→M' k):PnB M' w p Bl wv pn:=by
 obtain⟨cur,hB,hl,hc⟩:=h.hB
 exact⟨h.hp,⟨cur,hB,hl,hc⟩,h.hW.mono hm,hm _ (Ah h.hp) h.Mp,hm _ (Ah hB) h.MB,h.n4,h.m64⟩
theorem Gi.fp {S:Nat→Prop} (h:Gi M w p pn) (hf:Fp S w w') (hs:∀ k,S k→¬ M k):Gi M w' p pn:=by
 obtain⟨Bl,wv,h⟩:=h
 exact⟨Bl,wv,h.fp hf hs⟩
theorem Gi.le (h:Gi M w p pn) (hl:Le w w'):Gi M w' p pn:=h.fp (S:=fun _=>False) (Fp.of_le hl) (fun _ h=>h.elim)
theorem Gi.mono (h:Gi M w p pn) (hm:∀ k,k<w.heap.size→M k→M' k):Gi M' w p pn:=by
 obtain⟨Bl,wv,h⟩:=h
 exact⟨Bl,wv,h.mono hm⟩
theorem PnB.ne (h:PnB M w p Bl wv pn):p≠Bl:=by
 obtain⟨cur,hB,_⟩:=h.hB
 exact AS h.hp hB (by decide)
theorem PnB.cell (h:PnB M w p Bl wv pn) {i:Nat} {k:Wk} (hi:pn.l[i]?=some k) (j:Nat) (hj:j<3):w.cell? ⟨Bl,i*3+j,none⟩=(wkC k)[j]?:=by
 obtain⟨cur,hB,_,hc⟩:=h.hB
 rw[Ae hB,List.getElem?_toArray,hc i (wkC k) (by rw[List.getElem?_map,hi];rfl) j hj]
theorem PnB.c0 (h:PnB M w p Bl wv pn):w.cell? ⟨p,0,none⟩=some (.slice (some ⟨Bl,0,none⟩) pn.l.length pn.l.length):=Ae h.hp 0
theorem PnB.c1 (h:PnB M w p Bl wv pn):w.cell? ⟨p,1,none⟩=some wv:=Ae h.hp 1
theorem PnB.cut (h:PnB M w p Bl wv pn) {i:Nat} {k:Wk} (hi:pn.l[i]?=some k):∃ pre post:List Value,pre.length=i*3∧w.heap[Bl]?=some (.cells (pre++(wkC k++post)).toArray 313 (0,0)):=by
 obtain⟨cur,hB,hl,hc⟩:=h.hB
 have hlt:i<pn.l.length:=(List.getElem?_eq_some_iff.1 hi).1
 obtain⟨pre,old,post,e,h1,h2⟩:=Ec hl hlt
 refine⟨pre,post,h1,?_⟩
 have ho:old=wkC k:=by
  refine List.ext_getElem? fun j=>?_
  rcases Nat.lt_or_ge j 3 with hj | hj
  ·have:=hc i (wkC k) (by rw[List.getElem?_map,hi];rfl) j hj
   rw[← this,e,List.append_assoc,List.getElem?_append_right (by omega),List.getElem?_append_left (by omega),h1]
   congr 1
   omega
  ·rw[List.getElem?_eq_none (by omega),List.getElem?_eq_none (by simpa[wkC] using hj)]
 rw[← ho,← List.append_assoc,← e]
 exact hB
theorem PnB.put (h:PnB M w p Bl wv pn) {i:Nat} {k u:Wk} {pre post:List Value} (hi:pn.l[i]?=some k) (hp:pre.length=i*3) (h0:w.heap[Bl]?=some (.cells (pre++(wkC k++post)).toArray 313 (0,0)))
  (hg:w.grownBy w' (some Bl)) (hB:w'.heap[Bl]?=some (.cells (pre++(wkC u++post)).toArray 313 (0,0))):PnB M w' p Bl wv ⟨pn.l.set i u,pn.waits⟩:=by
 obtain⟨cur,hB0,hl,hc⟩:=h.hB
 rw[hB0] at h0
 injection h0 with h0
 injection h0 with h0
 have hcur:cur=pre++wkC k++post:=by simpa using congrArg Array.toList h0
 refine⟨?_,⟨pre++(wkC u++post),hB,?_,?_⟩,?_,h.Mp,h.MB,by simpa using h.n4,h.m64⟩
 ·show w'.heap[p]?=some (.cells #[.slice (some ⟨Bl,0,none⟩) (pn.l.set i u).length (pn.l.set i u).length,wv] 205 (0,0))
  rw[List.length_set]
  exact Ai hg h.hp (by intro e;injection e with e;exact h.ne e.symm)
 ·show (pre++(wkC u++post)).length=(pn.l.set i u).length*3
  rw[List.length_set,← hl,hcur];simp[wkC]
 ·show Cz _ 3 ((pn.l.set i u).map wkC)
  rw[List.map_set,← List.append_assoc]
  rw[hcur] at hc
  exact hc.set hp rfl rfl
 ·exact h.hW.other hg hB0 (by decide)
end
theorem slWt:SlT Tryz.prog 203 320 (.agg #[.int .i64 0,.int .u32 0,.int .u64 0]) 3 24:=⟨Tryz.underlying203,by kernel_rfl,rfl,by omega⟩
theorem slWk:SlT Tryz.prog 202 313 (.agg #[.int .u64 0,.int .u64 0,.bool false]) 3 24:=⟨Tryz.underlying202,by kernel_rfl,rfl,by omega⟩
section
variable {M M':Nat→Prop} {w w':World} {p Bl:Nat} {wv:Value} {pn:Pn}
theorem pnOf (h:PnB M w p Bl wv pn) (i:Nat) (hi:i<pn.l.length):Calls Tryz.prog 130 #[.pointer (some ⟨p,0,none⟩),.int .i64 i] w (Ax w (.tuple #[.pointer (some ⟨Bl,i*3,none⟩),.int .i64 0])):=by
 have c0:=h.c0
 have i1:¬ (i:Int)<0:=by omega
 have i2:¬ (pn.l.length:Int)≤(i:Int):=by omega
 have i3:(i:Int)<(pn.l.length:Int):=by omega
 obtain⟨R,hR⟩:∃ R,R=Ax w (.tuple #[.pointer (some ⟨Bl,i*3,none⟩),.int .i64 0]):=⟨_,rfl⟩
 rw[← hR]
 have HR:=Aa hR
 clear hR h
 go_enter Tryz.func130,Tryz.ntmps130
 go_wp2_with fail
 rw[HR.out]
 exact⟨rfl,(Le.refl w).out⟩
def PnInP (M:Nat→Prop) (w:World) (p Bl:Nat) (wv:Value) (pn:Pn) (i e:Nat) (en:Ending) (w':World):Prop :=
 en=.returned (.int .i64 (pn.install i e).2)∧PnB M w' p Bl wv (pn.install i e).1∧Fp M w w'
theorem pnInstall (h:PnB M w p Bl wv pn) (i:Nat) (hi:i<pn.l.length) (e:Nat):Calls Tryz.prog 64 #[.pointer (some ⟨p,0,none⟩),.int .i64 i,.int .u64 e] w (PnInP M w p Bl wv pn i e):=by
 obtain⟨R,hR⟩:∃ R,R=PnInP M w p Bl wv pn i e:=⟨_,rfl⟩
 rw[← hR]
 have HR:=Aa hR
 have H:=Aa h
 have HI:=Aa hi
 clear hR h hi
 go_enter Tryz.func64,Tryz.ntmps64
 go_wp2_with fail
 refine (pnOf H.out i HI.out).mono ?_
 rintro r w2 ⟨rfl,hb⟩
 have HL:=Aa (Le.mk hb)
 have H2:=Aa (H.out.le HL.out)
 have hk:=List.getElem?_eq_getElem HI.out
 have u0:w2.cell? ⟨Bl,i*3,none⟩=some (.int .u64 (pn.l[i]'HI.out).at_):=by have:=H2.out.cell hk 0 (by omega);simpa[wkC] using this
 have hw:pn.wk i=pn.l[i]'HI.out:=by rw[Pn.wk,Int.toNat_natCast,List.getD,hk,Option.getD_some]
 have hh:pn.has i=true:=by have:=HI.out;simp[Pn.has];omega
 obtain⟨pre,post,hpre,hB⟩:=H2.out.cut hk
 have HK:=Aa hk
 have HW:=Aa hw
 have HH:=Aa hh
 have HPRE:=Aa hpre
 have HB:=Aa hB
 clear hb hk hw hh hpre hB H
 generalize pn.l[i]'HI.out=K at *
 by_cases he:(e:Int)<(K.at_:Int)
 ·have HE:=Aa (show pn.install i e=(pn,23) by rw[Pn.install,HH.out,HW.out];simp only[Bool.not_true,Bool.false_eq_true,if_false];rw[if_pos (by omega)])
  go_wp2_with fail
  rw[HR.out]
  exact⟨by rw[HE.out];rfl,by rw[HE.out];exact H2.out,Fp.of_le HL.out⟩
 ·have HE:=Aa (show pn.install i e=(⟨pn.l.set i ⟨e,K.sees,K.looks⟩,pn.waits⟩,0) by rw[Pn.install,HH.out,HW.out];simp only[Bool.not_true,Bool.false_eq_true,if_false];rw[if_neg (by omega),Pn.put,Int.toNat_natCast])
  go_wp2_with (refine Ao rfl 28 (.tmp 29) (.tmp 27) rfl pre (v:=.int .u64 e) (old:=.int .u64 K.at_) (post:=.int .u64 K.sees::.bool K.looks::post) (by rw[HPRE.out];rfl) rfl (by kernel_rfl) rfl (by have:=HB.out;simpa[wkC] using this) ?_;intro w3 h3 hg3;have H3:=Aa h3;have HG3:=Aa hg3;clear h3 hg3)
  rw[HR.out]
  refine⟨by rw[HE.out];rfl,?_,(Fp.of_le HL.out).trans (Fp.of_grown HG3.out H2.out.MB)⟩
  rw[HE.out]
  exact H2.out.put HK.out HPRE.out HB.out HG3.out (by have:=H3.out;simpa[wkC] using this)
def PnReP (M:Nat→Prop) (w:World) (p Bl:Nat) (pn:Pn) (r:Rf) (e:Nat) (en:Ending) (w':World):Prop :=
 en=.returned (.int .i64 (pn.retire r e).2)∧(∃ wv',PnB (Gn M w) w' p Bl wv' (pn.retire r e).1)∧Fp M w w'
theorem pnRetire (h:PnB M w p Bl wv pn) (r:Rf) (e:Nat):Calls Tryz.prog 122 #[.pointer (some ⟨p,0,none⟩),.agg #[.int .i64 r.slot,.int .u32 r.turn],.int .u64 e] w (PnReP M w p Bl pn r e):=by
 have HL:=Aa ((Le.refl w).alloc (.cells #[.int .i64 r.slot,.int .u32 r.turn] 135))
 have HX:=Aa (heap_alloc_new w (.cells #[.int .i64 r.slot,.int .u32 r.turn] 135))
 obtain⟨R,hR⟩:∃ R,R=PnReP M w p Bl pn r e:=⟨_,rfl⟩
 rw[← hR]
 have HR:=Aa hR
 have HA:=Aa (h.le HL.out)
 have hm:=h.m64
 obtain⟨A,cap,hv,_,_,_⟩:=h.hW.cells
 have HV:=Aa hv
 clear hR h hv
 go_enter Tryz.func122,Tryz.ntmps122
 go_upto_region 1 with fail
 generalize w.alloc (.cells #[.int .i64 r.slot,.int .u32 r.turn] 135)=w1 at *
 generalize w.heap.size=gx at *
 have hlen:(pn.waits.map wtC).length=pn.waits.length:=List.length_map ..
 have c1:w1.cell? ⟨p,1,none⟩=some (.slice A pn.waits.length cap):=by rw[HA.out.c1,HV.out,hlen]
 have HLN:=Aa hlen
 clear hlen
 by_cases h64:pn.waits.length=64
 ·have hz:((pn.waits.length:Int)==64)=true:=by rw[beq_iff_eq];omega
  have HE:=Aa (show pn.retire r e=(pn,20) by rw[Pn.retire,if_pos h64])
  go_wp2_with fail
  rw[HR.out]
  exact⟨by rw[HE.out];rfl,⟨wv,by rw[HE.out];exact HA.out.mono fun k _ h=>.inl h⟩,Fp.of_le HL.out⟩
 ·have hz:((pn.waits.length:Int)==64)=false:=by rw[beq_eq_false_iff_ne];omega
  have HE:=Aa (show pn.retire r e=(⟨pn.l,pn.waits++[(r,e)]⟩,0) by rw[Pn.retire,if_neg h64])
  go_upto_region 5 with fail
  have HD:=Aa (HA.out.le (Le.refl w1).drew)
  have HXD:=Aa ((Le.refl w1).drew.heap HX.out)
  have hln2:(pn.waits.map wtC).length≤1000:=by rw[HLN.out];omega
  clear c1
  refine' AB 9 12 12 17 Le (Gr (wv).ownBlock) (IsD _::IsD _::IsD _::IsD _::IsD _::IsD _::IsD _::IsD _::(fun _ v W=>BsF (wv).ownBlock [.int .i64 r.slot,.int .u32 r.turn,.int .u64 e] 320 v W)::(fun _ v W=>EB w1.drew 320 3 (wv) (pn.waits.map wtC) [.int .i64 r.slot,.int .u32 r.turn,.int .u64 e] v W)::IsD _::IsD _::[]) ([]::[]::[1]::[2]::[3]::[]::[]::[5,6]::[7]::[4,8]::[0]::[10]::[]) (by kernel_rfl) (by kernel_rfl) (by rfl) (by kernel_rfl) (by kernel_rfl) Le.refl (fun _ _ _ h h'=>h.trans h') (fun _ _ _ h h'=>h.trans h') (fun _ _ h=>Gr.of_le h) ⟨StQ.is,StQ.is,StQ.is,StQ.is,StQ.is,StQ.is,StQ.is,StQ.is,(fun _ _ _ _ h hb=>BsF.gr hb h),(fun _ _ _ _ h hb=>EB.le hb h),StQ.is,StQ.is,trivial⟩ ?m5
  case m5 =>
   simp (maxSteps:=100000000) only [AR,DU,Nat.reduceBEq,cond_true,cond_false,AU,AH,AE,B6,AD,Am,Au,List.set_cons_succ,List.set_cons_zero,List.map_cons,List.getElem?_cons_zero,List.getElem?_cons_succ,Option.getD_some,List.map_nil,List.take_succ_cons,List.take_zero,List.drop_succ_cons,List.drop_zero,List.cons_append,List.nil_append,List.length_cons,List.length_nil,Nat.reduceAdd]
   intro x0 x1 x2 x3 x4 x5 x6 x7 x8 x9 x10 x11
   refine⟨⟨?_,?_,?_,?_,?_,?_,?_,?_,?_,?_,?_,?_,trivial⟩,?_⟩
   ·intro wo hw KQ hK;go_simp;exact hK _ _ .r .m
   ·intro wo hw KQ hK;go_simp;exact hK _ _ .r .m
   ·intro wo hw h1 KQ hK;cases h1;go_simp;exact hK _ _ .r .m
   ·intro wo hw h2 KQ hK;cases h2;go_simp;exact hK _ _ .r .m
   ·intro wo hw h3 KQ hK;cases h3;have kk:=Af (hw.heap HD.out.hp (HD.out.hW.row_ne HD.out.hp (by decide))) 1 (wv) rfl wo (Le.refl _);go_simp;exact hK _ _ .r .m
   ·intro wo hw KQ hK;refine cast (if_pos (show Region.wanted _ _=true from rfl)).symm ?_;have hz:=(hw.heap HXD.out (HD.out.hW.row_ne HXD.out (by decide)));refine Av 135 (.tmp 4) rfl (cs:=[.int .i64 r.slot,.int .u32 r.turn]) _ rfl Tryz.underlying135 rfl (by kernel_rfl) hz ?_;exact hK _ _ .r .m
   ·intro wo hw KQ hK;go_simp;exact hK _ _ .r .m
   ·intro wo hw h5 h6 KQ hK;cases h5;cases h6;go_simp;exact hK _ _ .r .m
   ·intro wo hw h7 KQ hK;cases h7;go_simp;exact hK _ _ ((Le.refl _).alloc _) (BsF.new _ _ (fun k hk=>Nat.lt_of_lt_of_le (HD.out.hW.lt hk) hw.size))
   ·intro wo hw h4 h8 KQ hK;cases h4;obtain⟨HBS⟩:=h8;refine cast (if_pos (show Region.wanted _ _=true from rfl)).symm ?_;refine Gv slWt (.tmp 21) (.tmp 25) rfl HD.out.hW hw rfl rfl ⟨HBS⟩ rfl (by simp[Value.oneCell']) (by omega) (by omega) ?_;intro v' w' h1 h2;exact hK _ _ h2 h1
   ·intro wo hw h0 KQ hK;cases h0;go_simp;exact hK _ _ .r .m
   ·intro wo hw h10 KQ hK;cases h10;go_simp;exact hK _ _ .r .m
   ·intro wz hz h0 h1 h2 h3 h4 h5 h6 h7 h8 h9 h10 h11;cases h0;cases h1;cases h2;cases h3;cases h4;cases h5;cases h6;cases h7;obtain⟨HBS⟩:=h8;obtain⟨HAP1,HAP2,HAP3⟩:=h9;cases h10;cases h11;skip
    have HAP:=Aa (show EB w1.drew 320 3 wv (pn.waits.map wtC) (wtC (r,e)) x9 wz from ⟨HAP1,HAP2,HAP3⟩)
    have h1c:x9.oneCell'=true:=by obtain⟨A3,cap3,e3,_,_⟩:=BF HAP1;rw[e3];rfl
    have H1C:=Aa h1c
    have HP:=Aa (HAP.out.heap HD.out.hW HD.out.hp (by decide))
    clear HAP1 HAP2 HAP3 h1c
    go_wp2_with (refine Ao rfl 203 (.tmp 28) (.tmp 26) rfl [.slice (some ⟨Bl,0,none⟩) pn.l.length pn.l.length] (v:=x9) (old:=wv) (post:=[]) rfl rfl (by kernel_rfl) H1C.out HP.out ?_;intro w5 h5 hg5;have H5:=Aa h5;have HG5:=Aa hg5;clear h5 hg5)
    rw[HR.out]
    obtain⟨cur,hB,hBl,hBc⟩:=HD.out.hB
    have hFP:Fp M w w5:=(Fp.of_le (HL.out.trans (Le.refl w1).drew)).trans ((HAP.out.fp HD.out.hW).trans (Fp.of_grown HG5.out HD.out.Mp))
    refine⟨by rw[HE.out];rfl,⟨x9,?_⟩,hFP⟩
    rw[HE.out]
    refine⟨H5.out,⟨cur,?_,hBl,hBc⟩,?_,.inl HD.out.Mp,.inl HD.out.MB,HD.out.n4,?_⟩
    ·exact Ai HG5.out (HAP.out.heap HD.out.hW hB (by decide)) (by intro h;injection h with h;exact HD.out.ne h)
    ·have h6:=(HAP.out.ownR HD.out.hW rfl).other HG5.out HP.out (by decide)
     have e6:((pn.waits++[(r,e)]).map wtC)=pn.waits.map wtC++[wtC (r,e)]:=by rw[List.map_append];rfl
     rw[e6]
     exact h6.mono fun k _ hk=>hk.elim .inl fun hk=>.inr (Nat.le_trans (HL.out.trans (Le.refl w1).drew).size hk)
    ·have:=HD.out.m64
     show (pn.waits++[(r,e)]).length≤64
     rw[List.length_append]
     simp only[List.length_cons,List.length_nil]
     omega
end
end Go.Proofs.YtmcndlofaanjiaaGreat
