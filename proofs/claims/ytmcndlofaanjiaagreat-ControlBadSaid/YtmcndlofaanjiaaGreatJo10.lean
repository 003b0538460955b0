/- Texts of one claim, laid together: Del3 Del4 Con -/
import Derived.Test.YtmcndlofaanjiaaGreatJo09
/- delta: person,track,sub. (Written by gen_del3.py.) -/
namespace Go.Proofs.YtmcndlofaanjiaaGreat
open Go.RowKit
set_option linter.unusedVariables false
set_option maxRecDepth 100000
set_option maxHeartbeats 8000000
def cf1 (a:Int):List Value→Int
 | .int _ k::_=>Dk k a
 | _=>0
def cf2 (a b:Int):List Value→Int
 | .int _ k::.int _ t::_=>orI (Dk k a) (Dk t b)
 | _=>0
theorem orI_lt {a b w t:Int}:orI (Dk a w) (Dk b t)<0↔a<w∨(a=w∧b<t):=by
 unfold orI
 split
 ·next h=>rw[Es];have:=(not_congr B1).1 h;omega
 ·next h=>rw[Es];have:=B1.1 (Classical.not_not.1 h);omega
theorem orI_eq {a b w t:Int}:orI (Dk a w) (Dk b t)=0↔a=w∧b=t:=by
 unfold orI
 split
 ·next h =>
       have:=(not_congr B1).1 h;constructor
       ·intro h2;exact absurd h2 h
       ·intro h2;exact absurd h2.1 this
 ·next h=>rw[B1];have:=B1.1 (Classical.not_not.1 h);omega
section
variable {M:Nat→Prop} {w:World} {s:DS} {pv tv sv:Value} {ts:List (Trk×Value)}
theorem per_get (s:DS) {i:Nat} {x:List Value} (h:(s.people.map Ds)[i]?=some x):∃ hi:i<s.people.length,x=Ds s.people[i]:=by
 rw[List.getElem?_map] at h
 obtain⟨p,hp,rfl⟩:=Option.map_eq_some_iff.1 h
 obtain⟨hi,e⟩:=List.getElem?_eq_some_iff.1 hp
 exact⟨hi,by rw[e]⟩
theorem hasP_bs (ok:s.Ok) (who:Int):bsF (cf1 who) (s.people.map Ds) (s.pAt who)=s.hasP who:=by
 unfold bsF
 cases hh:s.hasP who
 ·split
  ·next x hx =>
   obtain⟨hi,rfl⟩:=per_get s hx
   refine decide_eq_false fun e=>?_
   have h2:s.people[s.pAt who].who=who:=B1.1 e
   have h3:s.hasP who=true:=Bs.2 ⟨_,List.getElem_mem hi,h2⟩
   rw[h3] at hh;cases hh
  ·rfl
 ·obtain⟨h1,h2⟩:=GT ok hh
  have e:(s.people.map Ds)[s.pAt who]?=some (Ds s.people[s.pAt who]):=by rw[List.getElem?_map,List.getElem?_eq_getElem h1];rfl
  rw[e]
  refine decide_eq_true (B1.2 ?_)
  rw[DS.per,List.getD,List.getElem?_eq_getElem h1,Option.getD_some] at h2
  exact h2
theorem GB (h:DsB M w s pv tv sv ts) {i:Nat} {x:List Value} (hx:(ts.map trC)[i]?=some x):∃ (hi:i<s.tracks.length) (v:Value),x=trC (s.tracks[i],v):=by
 rw[List.getElem?_map] at hx
 obtain⟨p,hp,rfl⟩:=Option.map_eq_some_iff.1 hx
 obtain⟨hi,e⟩:=List.getElem?_eq_some_iff.1 hp
 have hi2:i<s.tracks.length:=by rw[← h.lenT];exact hi
 refine⟨hi2,p.2,?_⟩
 have e2:s.tracks[i]=p.1:=by
  have h3:s.tracks[i]?=some p.1:=by rw[← h.eT,List.getElem?_map,hp];rfl
  rw[List.getElem?_eq_getElem hi2] at h3
  exact Option.some.inj h3
 rw[e2]
theorem hasT_bs (h:DsB M w s pv tv sv ts) (ok:s.Ok) (id:Int):bsF (cf1 id) (ts.map trC) (s.tAt id)=s.hasT id:=by
 unfold bsF
 cases hh:s.hasT id
 ·split
  ·next x hx =>
   obtain⟨hi,v,rfl⟩:=GB h hx
   refine decide_eq_false fun e=>?_
   have h2:s.tracks[s.tAt id].id=id:=B1.1 e
   have h3:s.hasT id=true:=By.2 ⟨_,List.getElem_mem hi,h2⟩
   rw[h3] at hh;cases hh
  ·rfl
 ·obtain⟨h1,h2⟩:=EK ok hh
  have e0:=List.getElem?_eq_getElem (show s.tAt id<(ts.map trC).length by rw[List.length_map,h.lenT];exact h1)
  obtain⟨hi,v,e⟩:=GB h e0
  rw[e0,e]
  refine decide_eq_true (B1.2 ?_)
  rw[DS.trk,List.getD,List.getElem?_eq_getElem h1,Option.getD_some] at h2
  exact h2
theorem sub_get (s:DS) {i:Nat} {x:List Value} (h:(s.subs.map BC)[i]?=some x):∃ hi:i<s.subs.length,x=BC s.subs[i]:=by
 rw[List.getElem?_map] at h
 obtain⟨p,hp,rfl⟩:=Option.map_eq_some_iff.1 h
 obtain⟨hi,e⟩:=List.getElem?_eq_some_iff.1 hp
 exact⟨hi,by rw[e]⟩
theorem hasS_bs (ok:s.Ok) (a b:Int):bsF (cf2 a b) (s.subs.map BC) (s.sAt a b)=s.hasS a b:=by
 unfold bsF
 cases hh:s.hasS a b
 ·split
  ·next x hx =>
   obtain⟨hi,rfl⟩:=sub_get s hx
   refine decide_eq_false fun e=>?_
   have h2:s.subs[s.sAt a b].who=a∧s.subs[s.sAt a b].track=b:=orI_eq.1 e
   have h3:s.hasS a b=true:=BL.2 ⟨_,List.getElem_mem hi,h2⟩
   rw[h3] at hh;cases hh
  ·rfl
 ·obtain⟨h1,h2⟩:=D9 ok hh
  have e:(s.subs.map BC)[s.sAt a b]?=some (BC s.subs[s.sAt a b]):=by rw[List.getElem?_map,List.getElem?_eq_getElem h1];rfl
  rw[e]
  refine decide_eq_true (orI_eq.2 ?_)
  rw[DS.sub,List.getD,List.getElem?_eq_getElem h1,Option.getD_some] at h2
  exact h2
theorem lens (ok:s.Ok) (fw:s.Few):s.people.length≤16∧s.tracks.length≤16∧s.subs.length≤64:=by
 have:=ok.np
 have:=ok.nt
 have:=ok.ns
 have:=fw.mp
 have:=fw.mt
 have:=fw.ml
 omega
theorem Cd (h:DsB M w s pv tv sv ts) (ok:s.Ok) (fw:s.Few) (who:Int) :
  Calls Tryz.prog 172 #[dsV s pv tv sv,.int .i64 who] w (Ax w (.tuple #[.int .i64 (s.pAt who:Nat),.bool (s.hasP who)])):=by
 obtain⟨l1,l2,l3⟩:=lens ok fw
 rw[← hasP_bs ok who]
 have HL:=Aa ((Le.refl w).alloc (.cells #[.int .i64 s.mp,.int .i64 s.mt,.int .i64 s.ms,.int .i64 s.ml,pv,tv,sv] 62))
 have HX:=Aa (heap_alloc_new w (.cells #[.int .i64 s.mp,.int .i64 s.mt,.int .i64 s.ms,.int .i64 s.ml,pv,tv,sv] 62))
 have HB:=Aa (h.le HL.out)
 have HBS:=Aa (fun (W:World) (hW:Le (w.alloc (.cells #[.int .i64 s.mp,.int .i64 s.mt,.int .i64 s.ms,.int .i64 s.ml,pv,tv,sv] 62)) W)=>bs_per (w:=W) ((h.le (HL.out.trans hW)).hP) (by rw[List.length_map];omega) (.int .i64 who) (216) #[] (Bt Tryz.func216 (by kernel_rfl) rfl) (cf1 who) (fun x W hx _=>by obtain⟨p,_,rfl⟩:=List.mem_map.1 hx;exact per1_any _ _ _ p.who who rfl W) (s.pAt who) (by rw[List.length_map];exact pAt_le s who) (fun i x hx=>by obtain⟨hi,rfl⟩:=per_get s hx;exact (Fv ok who i hi).trans Es.symm))
 obtain⟨R,hR⟩:∃ R,R=Ax w (.tuple #[.int .i64 (s.pAt who:Nat),.bool (bsF (cf1 who) (s.people.map Ds) (s.pAt who))]):=⟨_,rfl⟩
 rw[← hR]
 have HR:=Aa hR
 clear hR h
 show Calls Tryz.prog 172 #[.agg #[.int .i64 s.mp,.int .i64 s.mt,.int .i64 s.ms,.int .i64 s.ml,pv,tv,sv],.int .i64 who] w R
 go_enter Tryz.func172,Tryz.ntmps172
 go_upto_region 1 with fail
 generalize w.alloc (.cells #[.int .i64 s.mp,.int .i64 s.mt,.int .i64 s.ms,.int .i64 s.ml,pv,tv,sv] 62)=w1 at *
 generalize w.heap.size=gx at *
 have y0:w1.cell? ⟨gx,4,none⟩=some pv:=Ae HX.out 4
 go_wp2_with fail
 refine (HBS.out w1 (Le.refl _)).mono ?_
 rintro e w2 ⟨rfl,hb2⟩
 have HL2:=Aa (HL.out.trans (Le.mk hb2))
 clear hb2
 go_wp2_with fail
 rw[HR.out]
 exact⟨rfl,HL2.out.out⟩
theorem Em (h:DsB M w s pv tv sv ts) (ok:s.Ok) (fw:s.Few) (id:Int) :
  Calls Tryz.prog 203 #[dsV s pv tv sv,.int .i64 id] w (Ax w (.tuple #[.int .i64 (s.tAt id:Nat),.bool (s.hasT id)])):=by
 obtain⟨l1,l2,l3⟩:=lens ok fw
 rw[← hasT_bs h ok id]
 have HL:=Aa ((Le.refl w).alloc (.cells #[.int .i64 s.mp,.int .i64 s.mt,.int .i64 s.ms,.int .i64 s.ml,pv,tv,sv] 62))
 have HX:=Aa (heap_alloc_new w (.cells #[.int .i64 s.mp,.int .i64 s.mt,.int .i64 s.ms,.int .i64 s.ml,pv,tv,sv] 62))
 have HB:=Aa (h.le HL.out)
 have HBS:=Aa (fun (W:World) (hW:Le (w.alloc (.cells #[.int .i64 s.mp,.int .i64 s.mt,.int .i64 s.ms,.int .i64 s.ml,pv,tv,sv] 62)) W)=>bs_trk (w:=W) ((h.le (HL.out.trans hW)).hT) (by rw[List.length_map,h.lenT];omega) (.int .i64 id) (233) #[] (Bt Tryz.func233 (by kernel_rfl) rfl) (cf1 id) (fun x W hx _=>by obtain⟨p,_,rfl⟩:=List.mem_map.1 hx;exact Hf _ _ _ _ p.1.id id rfl W) (s.tAt id) (by rw[List.length_map,h.lenT];exact tAt_le s id) (fun i x hx=>by obtain⟨hi,v,rfl⟩:=GB h hx;exact (FE ok id i hi).trans Es.symm))
 obtain⟨R,hR⟩:∃ R,R=Ax w (.tuple #[.int .i64 (s.tAt id:Nat),.bool (bsF (cf1 id) (ts.map trC) (s.tAt id))]):=⟨_,rfl⟩
 rw[← hR]
 have HR:=Aa hR
 clear hR h
 show Calls Tryz.prog 203 #[.agg #[.int .i64 s.mp,.int .i64 s.mt,.int .i64 s.ms,.int .i64 s.ml,pv,tv,sv],.int .i64 id] w R
 go_enter Tryz.func203,Tryz.ntmps203
 go_upto_region 1 with fail
 generalize w.alloc (.cells #[.int .i64 s.mp,.int .i64 s.mt,.int .i64 s.ms,.int .i64 s.ml,pv,tv,sv] 62)=w1 at *
 generalize w.heap.size=gx at *
 have y0:w1.cell? ⟨gx,5,none⟩=some tv:=Ae HX.out 5
 go_wp2_with fail
 refine (HBS.out w1 (Le.refl _)).mono ?_
 rintro e w2 ⟨rfl,hb2⟩
 have HL2:=Aa (HL.out.trans (Le.mk hb2))
 clear hb2
 go_wp2_with fail
 rw[HR.out]
 exact⟨rfl,HL2.out.out⟩
theorem D2 (h:DsB M w s pv tv sv ts) (ok:s.Ok) (fw:s.Few) (a b:Int) :
  Calls Tryz.prog 175 #[dsV s pv tv sv,.int .i64 a,.int .i64 b] w (Ax w (.tuple #[.int .i64 (s.sAt a b:Nat),.bool (s.hasS a b)])):=by
 obtain⟨l1,l2,l3⟩:=lens ok fw
 rw[← hasS_bs ok a b]
 have HL:=Aa ((Le.refl w).alloc (.cells #[.int .i64 s.mp,.int .i64 s.mt,.int .i64 s.ms,.int .i64 s.ml,pv,tv,sv] 62))
 have HX:=Aa (heap_alloc_new w (.cells #[.int .i64 s.mp,.int .i64 s.mt,.int .i64 s.ms,.int .i64 s.ml,pv,tv,sv] 62))
 have HB:=Aa (h.le HL.out)
 have HBS:=Aa (fun (W:World) (hW:Le (w.alloc (.cells #[.int .i64 s.mp,.int .i64 s.mt,.int .i64 s.ms,.int .i64 s.ml,pv,tv,sv] 62)) W)=>bs_sub (w:=W) ((h.le (HL.out.trans hW)).hS) (by rw[List.length_map];omega) (.int .i64 a) (.int .i64 b) (.int .i64 0) (.int .i64 0) (.bool false) (219) #[] (Bt Tryz.func219 (by kernel_rfl) rfl) (cf2 a b) (fun x W hx _=>by obtain⟨p,_,rfl⟩:=List.mem_map.1 hx;exact sub1_any p.who p.track a b _ _ _ _ _ _ W) (s.sAt a b) (by rw[List.length_map];exact sAt_le s a b) (fun i x hx=>by obtain⟨hi,rfl⟩:=sub_get s hx;refine (F1 ok a b i hi).trans ?_;refine Iff.trans ?_ orI_lt.symm;simp only[Sub.lt,Bool.or_eq_true,Bool.and_eq_true,decide_eq_true_eq]))
 obtain⟨R,hR⟩:∃ R,R=Ax w (.tuple #[.int .i64 (s.sAt a b:Nat),.bool (bsF (cf2 a b) (s.subs.map BC) (s.sAt a b))]):=⟨_,rfl⟩
 rw[← hR]
 have HR:=Aa hR
 clear hR h
 show Calls Tryz.prog 175 #[.agg #[.int .i64 s.mp,.int .i64 s.mt,.int .i64 s.ms,.int .i64 s.ml,pv,tv,sv],.int .i64 a,.int .i64 b] w R
 go_enter Tryz.func175,Tryz.ntmps175
 go_upto_region 1 with fail
 generalize w.alloc (.cells #[.int .i64 s.mp,.int .i64 s.mt,.int .i64 s.ms,.int .i64 s.ml,pv,tv,sv] 62)=w1 at *
 generalize w.heap.size=gx at *
 have y0:w1.cell? ⟨gx,6,none⟩=some sv:=Ae HX.out 6
 go_wp2_with fail
 refine (HBS.out w1 (Le.refl _)).mono ?_
 rintro e w2 ⟨rfl,hb2⟩
 have HL2:=Aa (HL.out.trans (Le.mk hb2))
 clear hb2
 go_wp2_with fail
 rw[HR.out]
 exact⟨rfl,HL2.out.out⟩
end
def EQ (w:World) (s:DS) (e:Ending) (w':World):Prop :=
 ∃ pv tv sv ts,e=.returned (dsV s pv tv sv)∧DsB (fun k=>w.heap.size≤k) w' s pv tv sv ts∧Le w w'
theorem Fq (s:DS):∀ y∈s.people.map Ds,∀ u∈y,u.oneCell'=true:=by
 intro y hy u hu
 obtain⟨p,_,rfl⟩:=List.mem_map.1 hy
 simp only[Ds,List.mem_cons,List.not_mem_nil,or_false] at hu
 rcases hu with rfl | rfl | rfl<;>rfl
theorem Cy (s:DS):∀ y∈s.subs.map BC,∀ u∈y,u.oneCell'=true:=by
 intro y hy u hu
 obtain⟨p,_,rfl⟩:=List.mem_map.1 hy
 simp only[BC,List.mem_cons,List.not_mem_nil,or_false] at hu
 rcases hu with rfl | rfl | rfl | rfl | rfl<;>rfl
theorem one_u32 (l:List Nat):∀ y∈l.map DI,∀ u∈y,u.oneCell'=true:=by
 intro y hy u hu
 obtain⟨p,_,rfl⟩:=List.mem_map.1 hy
 simp only[DI,List.mem_cons,List.not_mem_nil,or_false] at hu
 rw[hu];rfl
theorem List.set_getElem?_self' {α:Type} {l:List α} {i:Nat} {x:α} (h:l[i]?=some x):l.set i x=l:=by
 refine List.ext_getElem? fun k=>?_
 rw[List.getElem?_set]
 split
 ·next e=>subst e;rw[h,if_pos (List.getElem?_eq_some_iff.1 h).1]
 ·rfl
theorem AF {M:Nat→Prop} {w:World} {T:TypeId} {s:Nat} {v:Value} {xs:List (List Value)} (h:AA M w T s v xs):v.oneCell'=true:=by
 obtain⟨A,cap,rfl,_⟩:=h.cells;rfl
theorem Ff {M:Nat→Prop} {w:World} {s:DS} {pv tv sv:Value} {ts:List (Trk×Value)} (h:DsB M w s pv tv sv ts):∀ y∈ts.map trC,∀ u∈y,u.oneCell'=true:=by
 intro y hy u hu
 obtain⟨p,hp,rfl⟩:=List.mem_map.1 hy
 simp only[trC,List.mem_cons,List.not_mem_nil,or_false] at hu
 rcases hu with rfl | rfl | rfl | rfl
 ·rfl
 ·rfl
 ·rfl
 ·exact AF (h.hR p hp)
theorem AI {w w':World} {A:Option Addr} {xs:List Value} (h:Bk w A xs) (hl:Le w w'):Bk w' A xs:=fun hne=>by
 obtain⟨b,off,e,hc⟩:=h hne
 exact⟨b,off,e,fun j u hj=>hl.cell (hc j u hj)⟩
theorem dsClone {M:Nat→Prop} {w:World} {s:DS} {pv tv sv:Value} {ts:List (Trk×Value)} (h:DsB M w s pv tv sv ts) (ok:s.Ok) (fw:s.Few):Calls Tryz.prog 161 #[dsV s pv tv sv] w (EQ w s):=by
 obtain⟨l1,l2,l3⟩:=lens ok fw
 have LT:=Aa h.lenT
 have h1t:=Ff h
 obtain⟨Ap,cp,hpv,hpc,hpn,_⟩:=h.hP.cells
 obtain⟨At,ct,htv,htc,htn,_⟩:=h.hT.cells
 obtain⟨As,cs,hsv,hsc,hsn,_⟩:=h.hS.cells
 rw[List.length_map] at hpv htv hsv
 subst hpv htv hsv
 have H:=Aa h
 have HPC:=Aa hpc
 have HTC:=Aa htc
 have HSC:=Aa hsc
 have H1T:=Aa h1t
 have HPN:=Aa (show Ap=none→s.people.length=0∧cp=0 from fun e=>by obtain⟨a,b⟩:=hpn e;exact⟨by simpa using congrArg List.length a,b⟩)
 have HTN:=Aa (show At=none→ts.length=0∧ct=0 from fun e=>by obtain⟨a,b⟩:=htn e;exact⟨by simpa using congrArg List.length a,b⟩)
 have HSN:=Aa (show As=none→s.subs.length=0∧cs=0 from fun e=>by obtain⟨a,b⟩:=hsn e;exact⟨by simpa using congrArg List.length a,b⟩)
 have hz1:(w.alloc (.cells #[.int .i64 s.mp,.int .i64 s.mt,.int .i64 s.ms,.int .i64 s.ml,.slice Ap s.people.length cp,.slice At ts.length ct,.slice As s.subs.length cs] 62)).heap.size=w.heap.size+1:=by show (w.heap.push _).size=_;rw[Array.size_push]
 have HL:=Aa (((Le.refl w).alloc (.cells #[.int .i64 s.mp,.int .i64 s.mt,.int .i64 s.ms,.int .i64 s.ml,.slice Ap s.people.length cp,.slice At ts.length ct,.slice As s.subs.length cs] 62)).alloc (.cells #[.int .i64 0,.int .i64 0,.int .i64 0,.int .i64 0,.slice none 0 0,.slice none 0 0,.slice none 0 0] 62))
 have HX:=Aa (heap_alloc (o':=.cells #[.int .i64 0,.int .i64 0,.int .i64 0,.int .i64 0,.slice none 0 0,.slice none 0 0,.slice none 0 0] 62) (heap_alloc_new w (.cells #[.int .i64 s.mp,.int .i64 s.mt,.int .i64 s.ms,.int .i64 s.ml,.slice Ap s.people.length cp,.slice At ts.length ct,.slice As s.subs.length cs] 62)))
 have HY:=Aa (heap_alloc_new (w.alloc (.cells #[.int .i64 s.mp,.int .i64 s.mt,.int .i64 s.ms,.int .i64 s.ml,.slice Ap s.people.length cp,.slice At ts.length ct,.slice As s.subs.length cs] 62)) (.cells #[.int .i64 0,.int .i64 0,.int .i64 0,.int .i64 0,.slice none 0 0,.slice none 0 0,.slice none 0 0] 62))
 rw[hz1] at HY
 obtain⟨R,hR⟩:∃ R,R=EQ w s:=⟨_,rfl⟩
 rw[← hR]
 have HR:=Aa hR
 clear hR h hz1 hpc htc hsc hpn htn hsn h1t
 show Calls Tryz.prog 161 #[.agg #[.int .i64 s.mp,.int .i64 s.mt,.int .i64 s.ms,.int .i64 s.ml,.slice Ap s.people.length cp,.slice At ts.length ct,.slice As s.subs.length cs]] w R
 go_enter Tryz.func161,Tryz.ntmps161
 go_upto_region 1 with fail
 generalize (w.alloc (.cells #[.int .i64 s.mp,.int .i64 s.mt,.int .i64 s.ms,.int .i64 s.ml,.slice Ap s.people.length cp,.slice At ts.length ct,.slice As s.subs.length cs] 62)).alloc (.cells #[.int .i64 0,.int .i64 0,.int .i64 0,.int .i64 0,.slice none 0 0,.slice none 0 0,.slice none 0 0] 62)=w1 at *
 generalize hgy:w.heap.size+1=gy at *
 generalize hgx:w.heap.size=gx at *
 have HGX:=Aa (show w.heap.size=gx∧gx<gy by omega)
 clear hgx hgy
 have HSZ:=Aa HL.out.size
 have c1:w1.cell? ⟨gx,4,none⟩=some (.slice Ap s.people.length cp):=Ae HX.out 4
 go_wp2_with fail
 refine (FW w1 _ _ _ (s.people.map Ds).flatten (AI HPC.out HL.out) (by rw[AJ (s:=3) (by intro y hy;obtain⟨p,_,rfl⟩:=List.mem_map.1 hy;rfl),List.length_map]) HPN.out (by omega) (Bf (Fq s))).mono ?_
 rintro r w1a ⟨v1,rfl,ho,hl⟩
 have HO1:=Aa (AA.of_base ho (by rw[List.length_map]) (by intro y hy;obtain⟨p,_,rfl⟩:=List.mem_map.1 hy;rfl))
 have HLa:=Aa (HL.out.trans hl)
 have HXa:=Aa (hl.heap HX.out)
 have HYa:=Aa (hl.heap HY.out)
 clear ho hl HL HX HY c1
 go_upto_region 2 with (refine Ao rfl 58 (.tmp 7) (.tmp 6) rfl [.int .i64 s.mp,.int .i64 s.mt,.int .i64 s.ms,.int .i64 s.ml] (v:=v1) (old:=.slice Ap s.people.length cp) (post:=[.slice At ts.length ct,.slice As s.subs.length cs]) rfl rfl (by kernel_rfl) (AF HO1.out) HXa.out ?_;intro w1b h3 hg3;have HX:=Aa h3;have HG:=Aa hg3;clear h3 hg3)
 have HL:=Aa (show Le w w1b from (HLa.out).box1 HG.out (Nat.le_of_eq HGX.out.1))
 have HY:=Aa (Ai HG.out HYa.out (by intro e;injection e with e;have:=HGX.out.2;omega))
 have HO1z:=Aa ((HO1.out.other HG.out HXa.out (by decide)).mono (M':=fun k=>w.heap.size≤k) fun k _ hk=>Nat.le_trans HSZ.out hk)
 clear HO1 HLa HXa HYa HG
 have HO1:=HO1z
 clear HO1z
 have HSZ:=Aa HL.out.size
 have c2:w1b.cell? ⟨gx,6,none⟩=some (.slice As s.subs.length cs):=Ae HX.out 6
 go_wp2_with fail
 refine (El w1b _ _ _ (s.subs.map BC).flatten (AI HSC.out HL.out) (by rw[AJ (s:=5) (by intro y hy;obtain⟨p,_,rfl⟩:=List.mem_map.1 hy;rfl),List.length_map]) HSN.out (by omega) (Bf (Cy s))).mono ?_
 rintro r w1ba ⟨v3,rfl,ho,hl⟩
 have HO2:=Aa (AA.of_base ho (by rw[List.length_map]) (by intro y hy;obtain⟨p,_,rfl⟩:=List.mem_map.1 hy;rfl))
 have HLa:=Aa (HL.out.trans hl)
 have HXa:=Aa (hl.heap HX.out)
 have HYa:=Aa (hl.heap HY.out)
 have HO1a:=Aa (HO1.out.le hl)
 clear ho hl HL HX HY c2 HO1
 go_upto_region 3 with (refine Ao rfl 60 (.tmp 11) (.tmp 10) rfl [.int .i64 s.mp,.int .i64 s.mt,.int .i64 s.ms,.int .i64 s.ml,v1,.slice At ts.length ct] (v:=v3) (old:=.slice As s.subs.length cs) (post:=[]) rfl rfl (by kernel_rfl) (AF HO2.out) HXa.out ?_;intro w1bb h3 hg3;have HX:=Aa h3;have HG:=Aa hg3;clear h3 hg3)
 have HL:=Aa (show Le w w1bb from (HLa.out).box1 HG.out (Nat.le_of_eq HGX.out.1))
 have HY:=Aa (Ai HG.out HYa.out (by intro e;injection e with e;have:=HGX.out.2;omega))
 have HO2z:=Aa ((HO2.out.other HG.out HXa.out (by decide)).mono (M':=fun k=>w.heap.size≤k) fun k _ hk=>Nat.le_trans HSZ.out hk)
 have HO1:=Aa (HO1a.out.other HG.out HXa.out (by decide))
 clear HO2 HLa HXa HYa HG HO1a
 have HO2:=HO2z
 clear HO2z
 have HSZ:=Aa HL.out.size
 have c3:w1bb.cell? ⟨gx,5,none⟩=some (.slice At ts.length ct):=Ae HX.out 5
 go_wp2_with fail
 refine (FQ w1bb _ _ _ (ts.map trC).flatten (AI HTC.out HL.out) (by rw[AJ (s:=4) (by intro y hy;obtain⟨p,_,rfl⟩:=List.mem_map.1 hy;rfl),List.length_map]) HTN.out (by have:=LT.out;omega) (Bf H1T.out)).mono ?_
 rintro r w1bba ⟨v2,rfl,ho,hl⟩
 have HO3:=Aa (AA.of_base ho (by rw[List.length_map]) (by intro y hy;obtain⟨p,_,rfl⟩:=List.mem_map.1 hy;rfl))
 have HLa:=Aa (HL.out.trans hl)
 have HXa:=Aa (hl.heap HX.out)
 have HYa:=Aa (hl.heap HY.out)
 have HO1a:=Aa (HO1.out.le hl)
 have HO2a:=Aa (HO2.out.le hl)
 clear ho hl HL HX HY c3 HO1 HO2
 go_upto_region 4 with (refine Ao rfl 59 (.tmp 15) (.tmp 14) rfl [.int .i64 s.mp,.int .i64 s.mt,.int .i64 s.ms,.int .i64 s.ml,v1] (v:=v2) (old:=.slice At ts.length ct) (post:=[v3]) rfl rfl (by kernel_rfl) (AF HO3.out) HXa.out ?_;intro w1bbb h3 hg3;have HX:=Aa h3;have HG:=Aa hg3;clear h3 hg3)
 have HL:=Aa (show Le w w1bbb from (HLa.out).box1 HG.out (Nat.le_of_eq HGX.out.1))
 have HY:=Aa (Ai HG.out HYa.out (by intro e;injection e with e;have:=HGX.out.2;omega))
 have HO3z:=Aa ((HO3.out.other HG.out HXa.out (by decide)).mono (M':=fun k=>w.heap.size≤k) fun k _ hk=>Nat.le_trans HSZ.out hk)
 have HO1:=Aa (HO1a.out.other HG.out HXa.out (by decide))
 have HO2:=Aa (HO2a.out.other HG.out HXa.out (by decide))
 clear HO3 HLa HXa HYa HG HO1a HO2a
 have HO3:=HO3z
 clear HO3z
 obtain⟨A2,c2,hv2,_,_,_⟩:=HO3.out.cells
 rw[List.length_map] at hv2
 have cc:w1bbb.cell? ⟨gx,5,none⟩=some (.slice A2 ts.length c2):=by rw[Ae HX.out 5,← hv2];rfl
 clear hv2
 go_wp2_with fail
 clear cc
 have HRR:=H.out.hR
 have HEE:=Aa H.out.eT
 go_loopw [3,19] (fun _ j wr=>∃ (k:Nat) (tl:List (Trk×Value)),k≤ts.length∧j=.int .i64 k∧Hd (tl.map (·.1)=s.tracks)∧Hd (tl.length=ts.length)∧Hd (AA (fun k=>w.heap.size≤k) wr 182 4 v2 (tl.map trC))∧Hd (∀ (i:Nat) (t:Trk×Value),i<k→tl[i]?=some t→AA (fun k=>w.heap.size≤k) wr 110 1 t.2 (t.1.ssrcs.map DI))∧Hd (∀ i:Nat,k≤i→tl[i]?=ts[i]?)∧Hd (wr.heap[gx]?=some (.cells #[.int .i64 s.mp,.int .i64 s.mt,.int .i64 s.ms,.int .i64 s.ml,v1,v2,v3] 62 (0,0)))∧Hd (wr.heap[gy]?=some (.cells #[.int .i64 0,.int .i64 0,.int .i64 0,.int .i64 0,.slice none 0 0,.slice none 0 0,.slice none 0 0] 62 (0,0)))∧Hd (AA (fun k=>w.heap.size≤k) wr 94 3 v1 (s.people.map Ds))∧Hd (AA (fun k=>w.heap.size≤k) wr 133 5 v3 (s.subs.map BC))∧Hd (Le w wr)) (fun _ j _=>ts.length - (intOf j).toNat)
 case atStart=>exact⟨0,ts,Nat.zero_le _,rfl,HEE,Aa rfl,HO3,Aa (fun i t hi=>by omega),Aa (fun i _=>rfl),HX,HY,HO1,HO2,HL⟩
 case round =>
  clear HX HY HO1 HO2 HO3 HL HSZ
  obtain⟨k,tl,hk,rfl,HTE,HTL,HOT,HDN,HRS,HX,HY,HOP,HOS,HL⟩:=hrel
  rcases Nat.lt_or_ge k ts.length with hlt | hge
  ·have hltI:(k:Int)<(ts.length:Int):=by omega
   have e:=List.getElem?_eq_getElem hlt
   have e2:=HRS.out k (Nat.le_refl _)
   rw[e] at e2
   have HRK:=HRR _ (List.mem_of_getElem? e)
   have hfew:ts[k].1.ssrcs.length≤3:=by
    have h1:ts[k].1∈s.tracks:=by rw[← H.out.eT];exact List.mem_map.2 ⟨_,List.mem_of_getElem? e,rfl⟩
    have h2:=(ok.tIn _ h1).2.1
    simp only[Ew,Bool.and_eq_true] at h2
    have h3:=AY.1 h2.1
    omega
   have HE:=Aa e
   have HE2:=Aa e2
   clear e e2
   generalize ts[k]=t at *
   obtain⟨g2,cap2,pre,post,hv2,hMg,hpre,hgt⟩:=HOT.out.cut (i:=k) (x:=trC t) (by rw[List.getElem?_map,HE2.out];rfl)
   rw[List.length_map,HTL.out] at hv2
   subst hv2
   obtain⟨At1,ct1,ht2,htc,htn,_⟩:=HRK.cells
   rw[List.length_map] at ht2
   have HT2:=Aa ht2
   have HLD:=Aa (HL.out.trans (Le.refl wr).drew)
   have HXD:=Aa ((Le.refl wr).drew.heap HX.out)
   have KC:=Aa (show wr.drew.cell? ⟨g2,k*4+3,none⟩=some (.slice At1 t.1.ssrcs.length ct1) by
    have h1:=Ae hgt (k*4+3)
    have h0:pre.length≤k*4+3:=by omega
    rw[List.getElem?_toArray,List.getElem?_append_right h0,hpre,Nat.add_sub_cancel_left] at h1
    have h2:(trC t++post)[3]?=some t.2:=rfl
    rw[h2,ht2] at h1
    exact h1)
   have CT:=Aa (AI htc HLD.out)
   have CN:=Aa (show At1=none→t.1.ssrcs.length=0∧ct1=0 from fun e=>by obtain⟨a,b⟩:=htn e;exact⟨by simpa using congrArg List.length a,b⟩)
   have HGT:=Aa hgt
   have HPR:=Aa hpre
   have HMG:=Aa hMg
   have hl16:ts.length≤16:=by have:=LT.out;omega
   have q1:IntKind.i64.wrap ((k:Int)+1)=((k+1:Nat):Int):=by rw[IntWalk.i64_in _ (by omega)];simp
   clear hgt hpre hMg ht2 htc htn HRK
   go_upto_region 7 with fail
   refine' Aj 12 12 22 Le (Is _::Is _::Is _::Is _::Is _::Is _::Is _::Is _::Is _::(fun v W=>AA (fun k=>w.heap.size≤k) W 110 1 v (t.1.ssrcs.map DI))::Is _::Is _::[]) ([]::[0]::[]::[]::[3]::[]::[4,5]::[6]::[7]::[8]::[1,2]::[10]::[]) (by kernel_rfl) (by kernel_rfl) (by rfl) (by kernel_rfl) (by kernel_rfl) Le.refl (fun _ _ _ h h'=>h.trans h') ⟨St.is,St.is,St.is,St.is,St.is,St.is,St.is,St.is,St.is,(fun _ _ _ h hk=>AA.le hk h),St.is,St.is,trivial⟩ ?m7
   case m7 =>
    simp (maxSteps:=100000000) only [AR,Bv,AK,AC,An,AD,Am,Au,List.set_cons_succ,List.set_cons_zero,List.getElem?_cons_zero,List.getElem?_cons_succ,List.take_succ_cons,List.take_zero,List.drop_succ_cons,List.drop_zero,List.cons_append,List.nil_append,List.length_cons,List.length_nil,Nat.reduceAdd]
    intro x0 x1 x2 x3 x4 x5 x6 x7 x8 x9 x10 x11
    refine⟨⟨?_,?_,?_,?_,?_,?_,?_,?_,?_,?_,?_,?_,trivial⟩,?_⟩
    ·intro wo hw KQ hK;go_simp;exact hK _ _ .r .m
    ·intro wo hw h0 KQ hK;cases h0;have kk:=Af (hw.heap HXD.out) 5 (.slice (some ⟨g2,0,none⟩) ts.length cap2) rfl wo (Le.refl _);go_simp;exact hK _ _ .r .m
    ·intro wo hw KQ hK;go_simp;exact hK _ _ .r .m
    ·intro wo hw KQ hK;go_simp;exact hK _ _ .r .m
    ·intro wo hw h3 KQ hK;cases h3;have kk:=Af (hw.heap HXD.out) 5 (.slice (some ⟨g2,0,none⟩) ts.length cap2) rfl wo (Le.refl _);go_simp;exact hK _ _ .r .m
    ·intro wo hw KQ hK;go_simp;exact hK _ _ .r .m
    ·intro wo hw h4 h5 KQ hK;cases h4;cases h5;go_simp;exact hK _ _ .r .m
    ·intro wo hw h6 KQ hK;cases h6;go_simp;exact hK _ _ .r .m
    ·intro wo hw h7 KQ hK;cases h7;have kk:=hw.cell KC.out;go_simp;exact hK _ _ .r .m
    ·intro wo hw h8 KQ hK;cases h8;go_simp;refine (C5 wo _ _ _ (t.1.ssrcs.map DI).flatten (AI CT.out hw) (by rw[AJ (s:=1) (by intro y hy;obtain⟨p,_,rfl⟩:=List.mem_map.1 hy;rfl),List.length_map]) CN.out (by omega) (Bf (one_u32 _))).mono ?_;rintro e w' ⟨v,rfl,ho,hl⟩;exact hK _ _ hl ((AA.of_base ho (by rw[List.length_map]) (by intro y hy;obtain⟨p,_,rfl⟩:=List.mem_map.1 hy;rfl)).mono fun k _ hk=>Nat.le_trans (Nat.le_trans HLD.out.size hw.size) hk)
    ·intro wo hw h1 h2 KQ hK;cases h1;cases h2;go_simp;exact hK _ _ .r .m
    ·intro wo hw h10 KQ hK;cases h10;go_simp;exact hK _ _ .r .m
    ·intro wz hz h0 h1 h2 h3 h4 h5 h6 h7 h8 h9 h10 h11;cases h0;cases h1;cases h2;cases h3;cases h4;cases h5;cases h6;cases h7;cases h8;obtain⟨HN1,HN2,HN3⟩:=h9;cases h10;cases h11;skip
     have HN:=Aa (show AA (fun k=>w.heap.size≤k) wz 110 1 x9 (t.1.ssrcs.map DI) from ⟨HN1,HN2,HN3⟩)
     have HGZ:=Aa (hz.heap ((Le.refl wr).drew.heap HGT.out))
     clear HN1 HN2 HN3
     go_wp2_with (refine Ao rfl 29 (.tmp 33) (.tmp 31) rfl (pre++[.int .i64 t.1.id,.int .i64 t.1.owner,.int .i64 t.1.from_]) (v:=x9) (old:=t.2) (post:=post) (by rw[List.length_append,HPR.out];rfl) rfl (by kernel_rfl) (AF HN.out) (by have:=HGZ.out;simpa[trC] using this) ?_;intro w5 h5 hg5;have H5:=Aa h5;have HG5:=Aa hg5;clear h5 hg5)
     have hlz:=(Le.refl wr).drew.trans hz
     have hkl:(tl.map trC)[k]?=some (trC t):=by rw[List.getElem?_map,HE2.out];rfl
     have hoz:=HOT.out.le hlz
     have hlen:(tl.map trC).length=ts.length:=by rw[List.length_map,HTL.out]
     have hput:AA (fun k=>w.heap.size≤k) w5 182 4 (.slice (some ⟨g2,0,none⟩) ts.length cap2) ((tl.map trC).set k (trC (t.1,x9))):=by
      have h6:=hoz
      rw[← hlen] at h6 ⊢
      exact h6.put hkl HPR.out HGZ.out rfl (by have:=H5.out;simpa[trC] using this)
     refine⟨⟨k+1,tl.set k (t.1,x9),hlt,rfl,Aa ?_,Aa (by rw[List.length_set];exact HTL.out),Aa (by rw[List.map_set];exact hput),Aa (fun i u hi hu=>?_),Aa (fun i hi=>?_),Aa ?_,Aa ?_,Aa ((HOP.out.le hlz).other HG5.out HGZ.out (by decide)),Aa ((HOS.out.le hlz).other HG5.out HGZ.out (by decide)),Aa ?_⟩,by simp only[intOf];omega⟩
     ·rw[List.map_set,HTE.out]
      have h7:s.tracks[k]?=some t.1:=by rw[← HTE.out,List.getElem?_map,HE2.out];rfl
      exact List.set_getElem?_self' h7
     ·rw[List.getElem?_set] at hu
      split at hu
      ·next e =>
       subst e
       split at hu
       ·injection hu with hu
        subst hu
        exact HN.out.other HG5.out HGZ.out (by decide)
       ·cases hu
      ·next e=>exact ((HDN.out i u (by omega) hu).le hlz).other HG5.out HGZ.out (by decide)
     ·rw[List.getElem?_set_ne (by omega)]
      exact HRS.out i (by omega)
     ·exact Ai HG5.out (hlz.heap HX.out) (by intro e;injection e with e;exact AS (hlz.heap HX.out) HGZ.out (by decide) e.symm)
     ·exact Ai HG5.out (hlz.heap HY.out) (by intro e;injection e with e;exact AS (hlz.heap HY.out) HGZ.out (by decide) e.symm)
     ·exact (HL.out.trans hlz).box1 HG5.out HMG.out
  ·have hgeI:¬ (k:Int)<(ts.length:Int):=by omega
   obtain rfl:k=ts.length:=by omega
   go_wp2_with (first | (refine Al rfl 62 (.tmp 1) rfl (cs:=[.int .i64 s.mp,.int .i64 s.mt,.int .i64 s.ms,.int .i64 s.ml,v1,v2,v3]) _ rfl Tryz.underlying62 rfl (by kernel_rfl) HX.out ?_) | (refine Ak rfl 62 (.tmp 2) (.tmp 35) rfl (cs:=[.int .i64 s.mp,.int .i64 s.mt,.int .i64 s.ms,.int .i64 s.ml,v1,v2,v3]) (old:=[.int .i64 0,.int .i64 0,.int .i64 0,.int .i64 0,.slice none 0 0,.slice none 0 0,.slice none 0 0]) rfl rfl (by kernel_rfl) (by intro u hu;simp only[List.mem_cons,List.not_mem_nil,or_false] at hu;rcases hu with rfl | rfl | rfl | rfl | rfl | rfl | rfl<;>first | rfl | exact AF HOP.out | exact AF HOT.out | exact AF HOS.out) HY.out rfl ?_;intro w6 h6 hg6;have H6:=Aa h6;have HG6:=Aa hg6;clear h6 hg6))
   refine ret_c Tryz.results161 (Bb.mk' rfl H6.out Tryz.underlying62 rfl (by kernel_rfl)) ?_
   rw[HR.out]
   refine⟨v1,v2,v3,tl,rfl,⟨HOP.out.other HG6.out HY.out (by decide),HOT.out.other HG6.out HY.out (by decide),HOS.out.other HG6.out HY.out (by decide),HTE.out,fun t ht=>?_⟩,HL.out.box1 HG6.out (by have:=HGX.out;omega)⟩
   obtain⟨i,hi,rfl⟩:=List.getElem_of_mem ht
   exact (HDN.out i _ (by rw[← HTL.out];exact hi) (List.getElem?_eq_getElem hi)).other HG6.out HY.out (by decide)
def CA (l:List Nat):List Value:=l.map fun n:Nat=>Value.int .u32 (n:Int)
theorem Dn (l:List Nat):(l.map DI).flatten=CA l:=by
 induction l with
 | nil=>rfl
 | cons a l ih=>simp[DI,CA] at ih ⊢;exact ih
theorem index32 (w:World) (A:Option Addr) (l:List Nat) (cap:Nat) (x:Nat) (hc:Bk w A (CA l)) (hn:l.length≤1000000) :
  Calls Tryz.prog 246 #[.slice A l.length cap,.int .u32 x] w fun e w'=>∃ z:Int,e=.returned (.int .i64 z)∧decide (0≤z)=l.contains x∧Le w w':=by
 have HC:=Aa hc
 obtain⟨R,hR⟩:∃ R:Ending→World→Prop,R=fun e w'=>∃ z:Int,e=.returned (.int .i64 z)∧decide (0≤z)=l.contains x∧Le w w':=⟨_,rfl⟩
 rw[← hR]
 have HR:=Aa hR
 clear hR hc
 go_enter Tryz.func246,Tryz.ntmps246
 go_wp2_with fail
 go_loopw [5,8] (fun _ j wr=>∃ k:Nat,k≤l.length∧j=.int .i64 k∧wr=w∧Hd (∀ (i:Nat) (y:Nat),i<k→l[i]?=some y→y≠x)) (fun _ j _=>l.length - (intOf j).toNat)
 case atStart=>exact⟨0,Nat.zero_le _,rfl,rfl,Aa fun i y hi=>by omega⟩
 case round =>
  obtain⟨k,hk,rfl,rfl,HN⟩:=hrel
  rcases Nat.lt_or_ge k l.length with hlt | hge
  ·have hltI:(k:Int)<(l.length:Int):=by omega
   have e:=List.getElem?_eq_getElem hlt
   obtain⟨b,off,hA,hcell⟩:=HC.out (by cases l with | nil=>simp at hlt | cons a l=>simp[CA])
   subst hA
   have z0:wr.cell? ⟨b,off+k,none⟩=some (.int .u32 l[k]):=hcell k _ (by rw[CA,List.getElem?_map,e];rfl)
   have HE:=Aa e
   have q1:IntKind.i64.wrap ((k:Int)+1)=((k+1:Nat):Int):=by rw[IntWalk.i64_in _ (by omega)];simp
   clear e hcell
   generalize l[k]=y at *
   by_cases hxy:y=x
   ·have hz:((x:Int)==(y:Int))=true:=by rw[beq_iff_eq];omega
    have HM:=Aa (show l.contains x=true by rw[List.contains_iff_mem];exact hxy▸List.mem_of_getElem? HE.out)
    clear hxy
    go_wp2_with fail
    rw[HR.out]
    exact⟨(k:Int),rfl,by rw[HM.out];exact decide_eq_true (by omega),Le.refl _⟩
   ·have hz:((x:Int)==(y:Int))=false:=by rw[beq_eq_false_iff_ne];omega
    have HXY:=Aa hxy
    clear hxy
    go_wp2_with fail
    refine⟨⟨k+1,hlt,rfl,trivial,Aa fun i u hi hu=>?_⟩,by simp only[intOf];omega⟩
    rcases Nat.lt_or_ge i k with h | h
    ·exact HN.out i u h hu
    ·obtain rfl:i=k:=by omega
     rw[HE.out] at hu
     injection hu with hu
     rw[← hu];exact HXY.out
  ·have hgeI:¬ (k:Int)<(l.length:Int):=by omega
   have HM:=Aa (show l.contains x=false by
    rw[Bool.eq_false_iff]
    intro hc
    rw[List.contains_iff_mem] at hc
    obtain⟨i,hi,e⟩:=List.getElem_of_mem hc
    exact HN.out i _ (by omega) (List.getElem?_eq_getElem hi) e)
   go_wp2_with fail
   rw[HR.out]
   exact⟨-1,rfl,by rw[HM.out];rfl,Le.refl _⟩
theorem EE (w:World) (A:Option Addr) (l:List Nat) (cap:Nat) (x:Nat) (hc:Bk w A (CA l)) (hn:l.length≤1000000) :
  Calls Tryz.prog 234 #[.slice A l.length cap,.int .u32 x] w (Ax w (.bool (l.contains x))):=by
 have HI:=Aa (index32 w A l cap x hc hn)
 obtain⟨R,hR⟩:∃ R,R=Ax w (.bool (l.contains x)):=⟨_,rfl⟩
 rw[← hR]
 have HR:=Aa hR
 clear hR hc
 go_enter Tryz.func234,Tryz.ntmps234
 go_wp2_with fail
 refine HI.out.mono ?_
 rintro e w2 ⟨z,rfl,hz,hl⟩
 have HZ:=Aa hz
 have HL:=Aa hl
 clear hz hl
 go_wp2_with fail
 rw[HR.out,← HZ.out]
 exact⟨rfl,HL.out.out⟩
end Go.Proofs.YtmcndlofaanjiaaGreat
