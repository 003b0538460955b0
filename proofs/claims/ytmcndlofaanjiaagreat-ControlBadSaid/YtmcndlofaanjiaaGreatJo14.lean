/- Texts of one claim, laid together: Del7 InsS Del10 -/
import Derived.Test.YtmcndlofaanjiaaGreatJo11
import Derived.Test.YtmcndlofaanjiaaGreatJo12
import Derived.Test.YtmcndlofaanjiaaGreatJo13
/- delta: has,room,own. (Written by gen_del7.py.) -/
namespace Go.Proofs.YtmcndlofaanjiaaGreat
open Go.RowKit
set_option linter.unusedVariables false
set_option maxRecDepth 100000
set_option maxHeartbeats 8000000
section
variable {M M':Nat→Prop} {w w':World} {a:Nat} {s:DS} {pv tv sv:Value} {ts:List (Trk×Value)}
theorem has_any (h:DtB M w a s pv tv sv ts) (ok:s.Ok) (fw:s.Few) (who:Int):Calls Tryz.prog 211 #[.pointer (some ⟨a,0,none⟩),.int .i64 who] w (Ax w (.int .i64 (s.has who:Nat))):=by
 obtain⟨l1,l2,l3⟩:=lens ok fw
 obtain⟨A,cap,hsv,_,_,_⟩:=h.D.hS.cells
 rw[List.length_map] at hsv
 subst hsv
 have H:=Aa h
 have y0:w.cell? ⟨a,6,none⟩=some (.slice A s.subs.length cap):=Ae h.ha 6
 obtain⟨R,hR⟩:∃ R,R=Ax w (.int .i64 (s.has who:Nat)):=⟨_,rfl⟩
 rw[← hR]
 have HR:=Aa hR
 clear hR h
 go_enter Tryz.func211,Tryz.ntmps211
 go_wp2_with fail
 go_loopw [5,7,13] (fun s5 _ j wr=>∃ k:Nat,k≤s.subs.length∧j=.int .i64 k∧s5=.int .i64 (((s.subs.take k).filter fun x=>decide (x.who=who)).length:Nat)∧Hd (Le w wr)) (fun _ _ j _=>s.subs.length - (intOf j).toNat)
 case atStart=>exact⟨0,Nat.zero_le _,rfl,rfl,Aa (Le.refl _)⟩
 case round =>
  obtain⟨k,hk,rfl,rfl,HLE⟩:=hrel
  rcases Nat.lt_or_ge k s.subs.length with hlt | hge
  ·have hltI:(k:Int)<(s.subs.length:Int):=by omega
   have e:=List.getElem?_eq_getElem hlt
   obtain⟨g,hA,hrg⟩:=(H.out.le HLE.out).D.hS.elem (j:=k) (x:=BC s.subs[k]) (by rw[List.getElem?_map,e];rfl)
   subst hA
   have RG:=Aa hrg
   have q1:IntKind.i64.wrap ((k:Int)+1)=((k+1:Nat):Int):=by rw[IntWalk.i64_in _ (by omega)];simp
   have hfl:((s.subs.take k).filter fun x=>decide (x.who=who)).length≤64:=by
    have:=List.length_filter_le (fun x:Sub=>decide (x.who=who)) (s.subs.take k)
    have:=List.length_take_le' k s.subs
    omega
   have HT:=Aa (show s.subs.take (k+1)=s.subs.take k++[s.subs[k]] from BU e)
   clear e hrg
   generalize hn:((s.subs.take k).filter fun x=>decide (x.who=who)).length=n at *
   have HN:=Aa hn
   clear hn
   have q2:IntKind.i64.wrap ((n:Int)+1)=((n+1:Nat):Int):=by rw[IntWalk.i64_in _ (by omega)];simp
   generalize s.subs[k]=x at *
   go_upto_region 5 with (first | (refine wpList_load_mid rfl 133 (.tmp 15) rfl g (k*5) rfl (BC x) _ RG.out Tryz.underlying133 rfl (by kernel_rfl) ?_) | (refine Ak rfl 133 (.tmp 7) (.tmp 16) rfl (cs:=BC x) (old:=[.int .i64 0,.int .i64 0,.int .i64 0,.int .i64 0,.bool false]) rfl rfl (by kernel_rfl) (by simp[BC,Value.oneCell']) (heap_alloc_new _ _) rfl ?_;intro w3 h3 hg3;have H3:=Aa h3;have HL3:=Aa (show Le wr w3 from ((Le.refl wr).alloc _).box1 hg3 (Nat.le_refl _));clear h3 hg3))
   have z0:w3.cell? ⟨wr.heap.size,0,none⟩=some (.int .i64 x.who):=Ae H3.out 0
   generalize wr.heap.size=gx at *
   by_cases hw:x.who=who
   ·have hz:(x.who==who)=true:=by rw[beq_iff_eq];exact hw
    have HW:=Aa hw
    clear hw
    go_wp2_with fail
    exact⟨⟨k+1,hlt,rfl,by rw[HT.out,List.filter_append,List.length_append,HN.out];simp[HW.out],Aa (HLE.out.trans HL3.out)⟩,by simp only[intOf];omega⟩
   ·have hz:(x.who==who)=false:=by rw[beq_eq_false_iff_ne];exact hw
    have HW:=Aa hw
    clear hw
    go_wp2_with fail
    exact⟨⟨k+1,hlt,rfl,by rw[HT.out,List.filter_append,List.length_append,HN.out];simp[HW.out],Aa (HLE.out.trans HL3.out)⟩,by simp only[intOf];omega⟩
  ·have hgeI:¬ (k:Int)<(s.subs.length:Int):=by omega
   obtain rfl:k=s.subs.length:=by omega
   have HE:=Aa (show s.has who=((s.subs.take s.subs.length).filter fun x=>decide (x.who=who)).length by rw[List.take_length];rfl)
   go_wp2_with fail
   rw[HR.out]
   exact⟨rfl,HLE.out.out⟩
theorem room_any (h:DtB M w a s pv tv sv ts) (ok:s.Ok) (fw:s.Few) (who:Int) (hp:s.hasP who=true):Calls Tryz.prog 209 #[.pointer (some ⟨a,0,none⟩),.int .i64 who] w (Ax w (.int .i64 (s.per who).room)):=by
 obtain⟨l1,l2,l3⟩:=lens ok fw
 have H:=Aa h
 obtain⟨hlt,_⟩:=GT ok hp
 have e:=List.getElem?_eq_getElem hlt
 have hper:(s.per who).room=s.people[s.pAt who].room:=by rw[DS.per,List.getD,e,Option.getD_some]
 rw[hper]
 obtain⟨R,hR⟩:∃ R,R=Ax w (.int .i64 s.people[s.pAt who].room):=⟨_,rfl⟩
 rw[← hR]
 have HR:=Aa hR
 have HE:=Aa e
 have HPE:=Aa hp
 clear hR h hper e hp
 go_enter Tryz.func209,Tryz.ntmps209
 go_wp2_with (refine Al rfl 62 (.tmp 9) rfl (cs:=[.int .i64 s.mp,.int .i64 s.mt,.int .i64 s.ms,.int .i64 s.ml,pv,tv,sv]) _ rfl Tryz.underlying62 rfl (by kernel_rfl) H.out.ha ?_)
 refine (Cd H.out.D ok fw who).mono ?_
 rintro r w2 ⟨rfl,hb2⟩
 have HL2:=Aa (Le.mk hb2)
 have H2:=Aa (H.out.le HL2.out)
 clear hb2
 rw[HPE.out]
 obtain⟨g,cap,pre,post,hpv,_,hpre,hg⟩:=H2.out.D.hP.cut (i:=s.pAt who) (x:=Ds s.people[s.pAt who]) (by rw[List.getElem?_map,HE.out];rfl)
 rw[List.length_map] at hpv
 subst hpv
 have hiI:(s.pAt who:Int)<(s.people.length:Int):=by omega
 have y0:w2.cell? ⟨a,4,none⟩=some (.slice (some ⟨g,0,none⟩) s.people.length cap):=Ae H2.out.ha 4
 have y1:w2.cell? ⟨g,s.pAt who*3+1,none⟩=some (.int .i64 s.people[s.pAt who].room):=by
  have h0:pre.length≤s.pAt who*3+1:=by rw[hpre];omega
  rw[Ae hg,List.getElem?_toArray,List.getElem?_append_right h0,hpre,Nat.add_sub_cancel_left];rfl
 clear hpre hg
 generalize s.people[s.pAt who].room=rm at *
 generalize s.pAt who=i at *
 go_wp2_with fail
 rw[HR.out]
 exact⟨rfl,HL2.out.out⟩
end
theorem Gr.fpRow_sub {row:Option Nat} {w w':World} (h:Gr row w w'):Fp (fun k=>row=some k) w w':=⟨h.out.os,h.out.tape,h.out.output,h.out.size,fun k hk hs=>h.out.block k hk (fun e=>hs e.symm)⟩
def GS (M:Nat→Prop) (w:World) (v:Value) (xs:List (List Value)) (i:Nat) (x:List Value) (e:Ending) (w':World):Prop :=
 ∃ v',e=.returned v'∧AA (Gn M w) w' 133 5 v' (AV xs i x)∧Fp (fun k=>v.ownBlock=some k) w w'
theorem ins_sub {M:Nat→Prop} {w:World} {v:Value} {xs:List (List Value)} (hO:AA M w 133 5 v xs) (hn:xs.length≤1000) (i:Nat) (hi:i≤xs.length) (x:List Value) (hx:x.length=5) (h1x:∀ u∈x,u.oneCell'=true) (h1:∀ y∈xs,∀ u∈y,u.oneCell'=true)
  (gv:Nat) (hgv:w.heap[gv]?=some (.cells x.toArray 133 (0,0))) (hne:v.ownBlock≠some gv) :
  Calls Tryz.prog 212 #[v,.int .i64 i,.slice (some ⟨gv,0,none⟩) 1 1] w (GS M w v xs i x):=by
 have HO:=Aa hO
 have HX:=Aa hx
 have H1X:=Aa h1x
 have H1:=Aa h1
 have HGV:=Aa hgv
 have HNE:=Aa hne
 obtain⟨R,hR⟩:∃ R,R=GS M w v xs i x:=⟨_,rfl⟩
 rw[← hR]
 have HR:=Aa hR
 clear hR hO hx h1x h1 hgv hne
 rcases Nat.lt_or_ge i xs.length with hlt | hge
 ·-- in the middle
  have e0:=List.getElem?_eq_getElem (show 0<xs.length by omega)
  rcases HO.out.val with ⟨_,e⟩ | ⟨g,cap,cur,hv,hM,hg,hc,hm,hs,hr⟩
  ·subst e;simp at hlt
  subst hv
  have hA:=Dh HO.out.len (Nat.le_of_lt hlt)
  have hD:=Dg HO.out.len i
  have hcl0:cur.toList.length=cap*5:=by simpa using hs
  have htk:=hr.take HO.out.len (by rw[hcl0];exact Nat.mul_le_mul_right _ hc)
  have hxsf:xs.flatten=(xs.take i).flatten++(xs.drop i).flatten:=by rw[← List.flatten_append,List.take_append_drop]
  have hcur:cur.toList=(xs.take i).flatten++(xs.drop i).flatten++cur.toList.drop (xs.length*5):=by
   rw[← hxsf,← htk,List.take_append_drop]
  have hRl:(cur.toList.drop (xs.length*5)).length=(cap - xs.length)*5:=by rw[List.length_drop,hcl0,Nat.sub_mul]
  have h1D:∀ u∈(xs.drop i).flatten,u.oneCell'=true:=Bf fun y hy=>H1.out y (List.mem_of_mem_drop hy)
  have hgl:w.heap[g]?=some (.cells cur.toList.toArray 133 (0,0)):=by rw[Array.toArray_toList];exact hg
  have hsrc:∀ (W:World) (cl:List Value),W.heap[g]?=some (.cells cl.toArray 133 (0,0))→cl.take (xs.length*5)=xs.flatten→W.rangeAt g (i*5) (xs.drop i).flatten:=fun W cl hW hcl j u hj=>by
   have hjl:=(List.getElem?_eq_some_iff.1 hj).1
   rw[hD] at hjl
   have h5:(xs.length - i)*5=xs.length*5 - i*5:=Nat.sub_mul ..
   have h6:i*5+j<xs.length*5:=by omega
   rw[Ae hW,List.getElem?_toArray]
   have h7:(cl.take (xs.length*5))[i*5+j]?=cl[i*5+j]?:=by rw[List.getElem?_take,if_pos h6]
   rw[← h7,hcl,hxsf,← hA,List.getElem?_append_right (by omega),Nat.add_sub_cancel_left]
   exact hj
  have hgg:g≠gv:=fun e=>HNE.out (by rw[← e];rfl)
  have iI:¬ (i:Int)=(xs.length:Int):=by omega
  have iz:((i:Int)==(xs.length:Int))=false:=by rw[beq_eq_false_iff_ne];exact iI
  have q1:IntKind.i64.wrap ((xs.length:Int)+1)=((xs.length+1:Nat):Int):=by rw[IntWalk.i64_in _ (by omega)];simp
  have q2:IntKind.i64.wrap (((xs.length+1:Nat):Int) - (i:Int))=((xs.length+1 - i:Nat):Int):=by rw[IntWalk.i64_in _ (by omega)];omega
  have q3:IntKind.i64.wrap ((i:Int)+1)=((i+1:Nat):Int):=by rw[IntWalk.i64_in _ (by omega)];simp
  have s1:(i:Int)≤(xs.length:Int):=by omega
  have s2:i<cap:=by omega
  have s3:¬ cap=i:=by omega
  have HAL:=Aa hA
  have HDL:=Aa hD
  have HTK:=Aa htk
  have HCU:=Aa hcur
  have HRL:=Aa hRl
  have H1D:=Aa h1D
  have HG:=Aa hgl
  have HSR:=Aa hsrc
  have HGG:=Aa hgg
  have HM:=Aa hM
  have HCM:=Aa hm
  have HCS:=Aa hcl0
  clear hcl0
  have HXF:=Aa hxsf
  clear hA hD htk hcur hRl h1D hgl hsrc hgg hM hm hs hr hg hxsf e0
  rcases Nat.lt_or_ge cap (xs.length+1) with hfull | hroom
  ·obtain rfl:cap=xs.length:=by omega
   have hfI:(xs.length:Int)<((xs.length+1:Nat):Int):=by omega
   go_enter Tryz.func212,Tryz.ntmps212
   have HK:=Aa (show ((xs.length:Int)+1 - (i:Int))=((xs.length+1 - i:Nat):Int) by omega)
   have HRA:=Aa (show w.rangeAt g 0 (xs.take i).flatten from fun j u hj=>by
    have hjl:=(List.getElem?_eq_some_iff.1 hj).1
    rw[Ae HG.out,List.getElem?_toArray,Nat.zero_add,HCU.out,List.append_assoc,List.getElem?_append_left hjl]
    exact hj)
   go_upto_region 10 with (refine Fb rfl Dc Tryz.underlying3 (.tmp 34) (.tmp 39) rfl (g:=g) (n:=i) (cap:=xs.length) (k:=xs.length+1 - i) (m:=xs.length+1) rfl (show Value.int .i64 _=Value.int .i64 _ by rw[HK.out]) HRA.out HAL.out (by omega) (by omega) (by omega) (by omega) (by omega) ?_;intro w3 c3 z3 h3 hz3 hc3 hm3 hl3;have H3:=Aa h3;have HZ3:=Aa hz3;have HL3:=Aa hl3;have HM3:=Aa hm3;clear h3 hz3 hl3 hm3)
   have HGN:=Aa (Ah HG.out)
   have HVN:=Aa (Ah HGV.out)
   generalize hgn:w.heap.size=gn at *
   have HSN:=Aa hgn
   clear hgn
   have t1:(i:Int)≤(xs.length:Int)+1:=by omega
   have t2:i<c3:=by omega
   have t3:¬ c3=i:=by omega
   have hz3l:z3.length=(c3 - i)*5:=HZ3.out
   have hle3:5+(xs.length - i)*5≤z3.length:=by rw[hz3l];have:=Nat.mul_le_mul_right 5 (show xs.length - i+1≤c3 - i by omega);rw[Nat.succ_mul] at this;omega
   have HLE3:=Aa hle3
   clear hz3l hle3
   have HC0:=Aa (show ((xs.take i).flatten++z3).length=i*5+z3.length by rw[List.length_append,HAL.out])
   go_upto_region 11 with (refine Be rfl (.tmp 43) (.tmp 44) 60 60 rfl Tryz.underlying60 (size:=5) (by kernel_rfl) (g:=gn) (off:=i*5) (b:=gv) (o2:=0) rfl rfl H3.out (cs:=x) (n:=1) ?_ ?_ ?_ ?_ H1X.out ?_;(focus (show 1=min 1 _;omega));(focus (have:=HX.out;omega));(focus (intro j u hj;rw[Nat.zero_add];refine HL3.out.cell ?_;rw[Ae HGV.out];simpa using hj));(focus (rw[HC0.out,HX.out];have:=HLE3.out;omega));intro w4 h4 hg4;have H4:=Aa h4;have HG4:=Aa hg4;clear h4 hg4)
   have HG5:=Aa ((Le.refl w4).drew.heap (Ai HG4.out (HL3.out.heap HG.out) (by intro e;injection e with e;have:=HGN.out;omega)))
   have H5:=Aa ((Le.refl w4).drew.heap H4.out)
   have t4:(i:Int)+1≤(xs.length:Int)+1:=by omega
   have t5:i+1<c3:=by omega
   have t6:¬ c3=i+1:=by omega
   refine' Aj 8 8 46 Le (Is _::Is _::Is _::Is _::Is _::Is _::Is _::Is _::[]) ([]::[]::[]::[1,2]::[0,3]::[]::[]::[5,6]::[]) (by kernel_rfl) (by kernel_rfl) (by rfl) (by kernel_rfl) (by kernel_rfl) Le.refl (fun _ _ _ h h'=>h.trans h') ⟨St.is,St.is,St.is,St.is,St.is,St.is,St.is,St.is,trivial⟩ ?m11
   case m11 =>
    simp (maxSteps:=100000000) only [AR,Bv,AK,AC,An,AD,Am,Au,List.set_cons_succ,List.set_cons_zero,List.getElem?_cons_zero,List.getElem?_cons_succ,List.take_succ_cons,List.take_zero,List.drop_succ_cons,List.drop_zero,List.cons_append,List.nil_append,List.length_cons,List.length_nil,Nat.reduceAdd]
    intro x0 x1 x2 x3 x4 x5 x6 x7
    refine⟨⟨?_,?_,?_,?_,?_,?_,?_,?_,trivial⟩,?_⟩
    ·intro wo hw KQ hK;go_simp;exact hK _ _ .r .m
    ·intro wo hw KQ hK;go_simp;exact hK _ _ .r .m
    ·intro wo hw KQ hK;go_simp;exact hK _ _ .r .m
    ·intro wo hw h1 h2 KQ hK;cases h1;cases h2;go_simp;exact hK _ _ .r .m
    ·intro wo hw h0 h3 KQ hK;cases h0;cases h3;go_simp;exact hK _ _ .r .m
    ·intro wo hw KQ hK;go_simp;exact hK _ _ .r .m
    ·intro wo hw KQ hK;go_simp;exact hK _ _ .r .m
    ·intro wo hw h5 h6 KQ hK;cases h5;cases h6;go_simp;exact hK _ _ .r .m
    ·intro wz hz h0 h1 h2 h3 h4 h5 h6 h7;cases h0;cases h1;cases h2;cases h3;cases h4;cases h5;cases h6;cases h7;skip
     have HZG:=Aa (hz.heap HG5.out)
     have HZN:=Aa (hz.heap H5.out)
     have HLZ:=Aa ((Le.refl w4).drew.trans hz)
     have HC1:=Aa (show (((xs.take i).flatten++z3).take (i*5)++x++((xs.take i).flatten++z3).drop (i*5+x.length)).length=i*5+z3.length by
      have h1:=HLE3.out
      have h2:=HX.out
      simp only[List.length_append,List.length_take,List.length_drop,HAL.out]
      omega)
     clear HG5 H5 hz
     go_wp2_with (refine Be rfl (.tmp 50) (.tmp 53) 60 60 rfl Tryz.underlying60 (size:=5) (by kernel_rfl) (g:=gn) (off:=(i+1)*5) (b:=g) (o2:=i*5) rfl rfl HZN.out (cs:=(xs.drop i).flatten) (n:=xs.length - i) ?_ HDL.out ?_ ?_ H1D.out ?_;(focus (show xs.length - i=min _ _;omega));(focus (exact HSR.out wz cur.toList HZG.out HTK.out));(focus (rw[HC1.out,HDL.out];have:=HLE3.out;omega));intro w6 h6 hg6;have H6:=Aa h6;have HG6:=Aa hg6;clear h6 hg6)
     rw[HR.out]
     obtain⟨R',hrow,hRl⟩:=Ee (cur:=(xs.take i).flatten++z3) rfl HAL.out HDL.out HX.out (Nat.le_of_lt hlt) HLE3.out
     have h6:=H6.out
     rw[hrow,← CE] at h6
     have hil:=DC HO.out.len HX.out (i:=i)
     have hfl:=AJ hil
     have hin:(AV xs i x).length=xs.length+1:=BH ..
     rw[hin] at hfl
     have hz9:=HZ3.out
     have hmul:(c3 - i)*5=5+(xs.length - i)*5+(c3 - (xs.length+1))*5:=by
      have:c3 - i=1+(xs.length - i)+(c3 - (xs.length+1)):=by omega
      rw[this,Nat.add_mul,Nat.add_mul,Nat.one_mul]
     have hmul2:c3*5=(xs.length+1)*5+(c3 - (xs.length+1))*5:=by rw[← Nat.add_mul];congr 1;omega
     have hgf:Fp (fun k=>(Value.slice (some ⟨g,0,none⟩) xs.length xs.length).ownBlock=some k) w w6 :=
      (((Fp.of_le HL3.out).fresh HG4.out (Nat.le_of_eq HSN.out)).trans (Fp.of_le HLZ.out)).fresh HG6.out (Nat.le_of_eq HSN.out)
     refine⟨.slice (some ⟨gn,0,none⟩) (xs.length+1) c3,rfl,⟨⟨?_,.inr ⟨gn,c3,((AV xs i x).flatten++R').toArray,?_,Nat.zero_le _,h6,?_,HM3.out,?_,?_⟩⟩,fun k hk=>?_,hil⟩,hgf⟩
     ·rw[hin];exact hfl
     ·rw[hin]
     ·rw[hin];exact hc3
     ·rw[List.size_toArray,List.length_append,hfl]
      rw[HDL.out] at hRl
      omega
     ·rw[hin,← hfl,List.take_left']
      rfl
     ·simp only[Value.ownBlock,Option.some.injEq] at hk
      exact .inr (by rw[← hk];exact Nat.le_of_eq HSN.out)
  ·have hfI:¬ (cap:Int)<((xs.length+1:Nat):Int):=by omega
   go_enter Tryz.func212,Tryz.ntmps212
   have HSH:=Aa (show w.shape? gv=some (133,x.length) by simp[World.shape?,HGV.out])
   have HSG:=Aa (show w.shape? g=some (133,cur.toList.length) by simp[World.shape?,HG.out])
   have hov:∀ lb cb,(callFunc 241 #[.slice (some ⟨gv,0,none⟩) 1 1,.slice (some ⟨g,(i+1)*5,none⟩) lb cb]).run Tryz.prog w=.ok (.value (.bool false)) w:=fun lb cb=>by
    rw[run_callFunc_extern Tryz.func241 (by kernel_rfl) (by kernel_rfl) (by kernel_rfl) (e:=Extern.SlicesOverlaps.overlaps #[60,60] #[4]) (by kernel_rfl),Lib.run_overlaps_apart w 60 4 133 Tryz.underlying60 5 (fun w=>by kernel_rfl) ⟨gv,0,none⟩ ⟨g,(i+1)*5,none⟩ 1 1 lb cb (fun e=>HGG.out e.symm) 133 133 _ _ HSH.out HSG.out (by rw[HCS.out];have:=Nat.mul_le_mul_right 5 (show 1≤cap by omega);omega) (Ay HGV.out 0) (Ay HGV.out _)]
    rfl
   have t1:(xs.length:Int)+1≤(cap:Int):=by omega
   have t7:(i:Int)≤(xs.length:Int)+1:=by omega
   have t4:(i:Int)+1≤(xs.length:Int)+1:=by omega
   have t5:i+1<cap:=by omega
   have t6:¬ cap=i+1:=by omega
   go_upto_region 15 with fail
   clear hov
   have HGD:=Aa ((Le.refl w).drew.heap HG.out)
   refine' Aj 8 8 69 Le (Is _::Is _::Is _::Is _::Is _::Is _::Is _::Is _::[]) ([]::[]::[]::[1,2]::[0,3]::[]::[]::[5,6]::[]) (by kernel_rfl) (by kernel_rfl) (by rfl) (by kernel_rfl) (by kernel_rfl) Le.refl (fun _ _ _ h h'=>h.trans h') ⟨St.is,St.is,St.is,St.is,St.is,St.is,St.is,St.is,trivial⟩ ?m15
   case m15 =>
    simp (maxSteps:=100000000) only [AR,Bv,AK,AC,An,AD,Am,Au,List.set_cons_succ,List.set_cons_zero,List.getElem?_cons_zero,List.getElem?_cons_succ,List.take_succ_cons,List.take_zero,List.drop_succ_cons,List.drop_zero,List.cons_append,List.nil_append,List.length_cons,List.length_nil,Nat.reduceAdd]
    intro x0 x1 x2 x3 x4 x5 x6 x7
    refine⟨⟨?_,?_,?_,?_,?_,?_,?_,?_,trivial⟩,?_⟩
    ·intro wo hw KQ hK;go_simp;exact hK _ _ .r .m
    ·intro wo hw KQ hK;go_simp;exact hK _ _ .r .m
    ·intro wo hw KQ hK;go_simp;exact hK _ _ .r .m
    ·intro wo hw h1 h2 KQ hK;cases h1;cases h2;go_simp;exact hK _ _ .r .m
    ·intro wo hw h0 h3 KQ hK;cases h0;cases h3;go_simp;exact hK _ _ .r .m
    ·intro wo hw KQ hK;go_simp;exact hK _ _ .r .m
    ·intro wo hw KQ hK;go_simp;exact hK _ _ .r .m
    ·intro wo hw h5 h6 KQ hK;cases h5;cases h6;go_simp;exact hK _ _ .r .m
    ·intro wz hz h0 h1 h2 h3 h4 h5 h6 h7;cases h0;cases h1;cases h2;cases h3;cases h4;cases h5;cases h6;cases h7;skip
     have HZG:=Aa (hz.heap HGD.out)
     have HLZ:=Aa ((Le.refl w).drew.trans hz)
     clear hz
     go_upto_region 16 with (refine Be rfl (.tmp 73) (.tmp 76) 60 60 rfl Tryz.underlying60 (size:=5) (by kernel_rfl) (g:=g) (off:=(i+1)*5) (b:=g) (o2:=i*5) rfl rfl HZG.out (cs:=(xs.drop i).flatten) (n:=xs.length - i) ?_ HDL.out ?_ ?_ H1D.out ?_;(focus (show xs.length - i=min _ _;omega));(focus (exact HSR.out wz cur.toList HZG.out HTK.out));(focus (rw[HCS.out,HDL.out];have:=Nat.mul_le_mul_right 5 (show xs.length+1≤cap by omega);have h2:(xs.length - i)*5=xs.length*5 - i*5:=Nat.sub_mul ..;have h3:=Nat.mul_le_mul_right 5 (Nat.le_of_lt hlt);rw[Nat.succ_mul] at this ⊢;omega));intro w5 h5 hg5;have H5:=Aa h5;have HG5:=Aa hg5;clear h5 hg5)
     have hRl3:5≤(cur.toList.drop (xs.length*5)).length:=by rw[HRL.out];have:=Nat.mul_le_mul_right 5 (show 1≤cap - xs.length by omega);omega
     obtain⟨R',hrow,hRl⟩:=Eo (cur:=cur.toList) HCU.out HAL.out HDL.out HX.out (Nat.le_of_lt hlt) hRl3
     have HROW:=Aa hrow
     have HRL2:=Aa hRl
     have HLC:=Aa (show (cur.toList.take ((i+1)*5)++(xs.drop i).flatten++cur.toList.drop ((i+1)*5+(xs.drop i).flatten.length)).length=cap*5 by
      have h1:=HCS.out
      have h2:=HDL.out
      have h3:(xs.length - i)*5=xs.length*5 - i*5:=Nat.sub_mul ..
      have h4:=Nat.mul_le_mul_right 5 (Nat.le_of_lt hlt)
      have h5:=Nat.mul_le_mul_right 5 (show xs.length+1≤cap by omega)
      rw[Nat.succ_mul] at h5
      have h6:(i+1)*5=i*5+5:=Nat.succ_mul ..
      simp only[List.length_append,List.length_take,List.length_drop]
      omega)
     clear hrow hRl hRl3
     go_wp2_with (refine Be rfl (.tmp 80) (.tmp 81) 60 60 rfl Tryz.underlying60 (size:=5) (by kernel_rfl) (g:=g) (off:=i*5) (b:=gv) (o2:=0) rfl rfl H5.out (cs:=x) (n:=1) ?_ ?_ ?_ ?_ H1X.out ?_;(focus (show 1=min 1 _;omega));(focus (have:=HX.out;omega));(focus (intro j u hj;rw[Nat.zero_add];have h9:=Ai HG5.out (HLZ.out.heap HGV.out) (by intro e;injection e with e;exact HGG.out e);rw[Ae h9];simpa using hj));(focus (rw[HLC.out,HX.out];have h5:=Nat.mul_le_mul_right 5 (show i+1≤cap by omega);rw[Nat.succ_mul] at h5;omega));intro w6 h6 hg6;have H6:=Aa h6;have HG6:=Aa hg6;clear h6 hg6)
     rw[HR.out]
     have h6:=H6.out
     rw[HROW.out,← CE] at h6
     have hil:=DC HO.out.len HX.out (i:=i)
     have hfl:=AJ hil
     have hin:(AV xs i x).length=xs.length+1:=BH ..
     rw[hin] at hfl
     refine⟨.slice (some ⟨g,0,none⟩) (xs.length+1) cap,rfl,⟨⟨?_,.inr ⟨g,cap,((AV xs i x).flatten++R').toArray,?_,Nat.zero_le _,h6,?_,HCM.out,?_,?_⟩⟩,fun k hk=>?_,hil⟩,(Fp.of_le HLZ.out).trans ((Fp.of_grown (S:=fun k=>(Value.slice (some ⟨g,0,none⟩) xs.length cap).ownBlock=some k) HG5.out rfl).trans (Fp.of_grown HG6.out rfl))⟩
     ·rw[hin];exact hfl
     ·rw[hin]
     ·rw[hin];omega
     ·have h7:=HRL2.out
      have h8:=HRL.out
      have h9:(cap - xs.length)*5=cap*5 - xs.length*5:=Nat.sub_mul ..
      have h10:=Nat.mul_le_mul_right 5 (show xs.length≤cap by omega)
      rw[List.size_toArray,List.length_append,hfl,Nat.succ_mul]
      omega
     ·rw[hin,← hfl,List.take_left']
      rfl
     ·simp only[Value.ownBlock,Option.some.injEq] at hk
      exact .inl (by rw[← hk];exact HM.out)
 ·obtain rfl:i=xs.length:=by omega
  have iz:((xs.length:Int)==(xs.length:Int))=true:=by simp
  have HIN:=Aa (show AV xs xs.length x=xs++[x] by rw[AV,List.take_length,List.drop_length])
  obtain⟨A,cap,hv,_,hnil,hcap⟩:=HO.out.cells
  subst hv
  have HB:=Aa (show BsF (Value.slice A xs.length cap).ownBlock x 133 (.slice (some ⟨gv,0,none⟩) 1 1) w from ⟨gv,rfl,HNE.out,HGV.out⟩)
  cases A with
  | none =>
   obtain⟨hx0,hc0⟩:=hnil rfl
   subst hx0 hc0
   go_enter Tryz.func212,Tryz.ntmps212
   go_wp2_with (refine Br rfl Dc (.tmp 23) (.tmp 24) rfl HO.out (Le.refl w) rfl rfl HB.out HX.out H1X.out (by first | omega | simp) (by omega) ?_;intro v' w4 h4 h5;have H4:=Aa h4;clear h4 h5)
   rw[HR.out]
   exact⟨v',rfl,by rw[HIN.out];exact H4.out.ownR HO.out HX.out,Gr.fpRow_sub H4.out.gr⟩
  | some A =>
   clear hnil
   have s1:(xs.length:Int)≤(xs.length:Int):=by omega
   rcases Nat.lt_or_ge xs.length cap with hc | hc
   ·have s2:¬ cap=xs.length:=by omega
    go_enter Tryz.func212,Tryz.ntmps212
    go_wp2_with (refine Br rfl Dc (.tmp 23) (.tmp 24) rfl HO.out (Le.refl w) rfl rfl HB.out HX.out H1X.out (by first | omega | simp) (by omega) ?_;intro v' w4 h4 h5;have H4:=Aa h4;clear h4 h5)
    rw[HR.out]
    exact⟨v',rfl,by rw[HIN.out];exact H4.out.ownR HO.out HX.out,Gr.fpRow_sub H4.out.gr⟩
   ·obtain rfl:cap=xs.length:=by omega
    go_enter Tryz.func212,Tryz.ntmps212
    go_wp2_with (refine Br rfl Dc (.tmp 23) (.tmp 24) rfl HO.out (Le.refl w) rfl rfl HB.out HX.out H1X.out (by first | omega | simp) (by omega) ?_;intro v' w4 h4 h5;have H4:=Aa h4;clear h4 h5)
    rw[HR.out]
    exact⟨v',rfl,by rw[HIN.out];exact H4.out.ownR HO.out HX.out,Gr.fpRow_sub H4.out.gr⟩
section
variable {M M':Nat→Prop} {w w' w'':World} {a:Nat} {s:DS} {pv tv sv:Value} {ts:List (Trk×Value)}
theorem Fi (h:DtB M w a s pv tv sv ts) (ok:s.Ok) (fw:s.Few) (q:Rq) (qs:Value) (hq1:qs.oneCell'=true) (hp:s.hasP q.who=true):Calls Tryz.prog 167 #[.pointer (some ⟨a,0,none⟩),rqV q qs] w (DoP M w a (s.subscribe q)):=by
 obtain⟨l1,l2,l3⟩:=lens ok fw
 obtain⟨hpl,hpw⟩:=GT ok hp
 have e:=List.getElem?_eq_getElem hpl
 have hper:s.per q.who=s.people[s.pAt q.who]:=by rw[DS.per,List.getD,e,Option.getD_some]
 have hpi:=ok.pIn _ (List.getElem_mem hpl)
 obtain⟨gp,cpp,prep,postp,hpv,_,hprep,hgp⟩:=h.D.hP.cut (i:=s.pAt q.who) (x:=Ds s.people[s.pAt q.who]) (by rw[List.getElem?_map,e];rfl)
 rw[List.length_map] at hpv
 subst hpv
 obtain⟨As,cs,hsv,_,_,_⟩:=h.D.hS.cells
 rw[List.length_map] at hsv
 subst hsv
 have KM:=Aa (show w.cell? ⟨gp,s.pAt q.who*3+1,none⟩=some (.int .i64 s.people[s.pAt q.who].room) by
  have h0:prep.length≤s.pAt q.who*3+1:=by rw[hprep];omega
  rw[Ae hgp,List.getElem?_toArray,List.getElem?_append_right h0,hprep,Nat.add_sub_cancel_left];rfl)
 have KR:=Aa (show w.cell? ⟨gp,s.pAt q.who*3+2,none⟩=some (.int .i64 s.people[s.pAt q.who].rights) by
  have h0:prep.length≤s.pAt q.who*3+2:=by rw[hprep];omega
  rw[Ae hgp,List.getElem?_toArray,List.getElem?_append_right h0,hprep,Nat.add_sub_cancel_left];rfl)
 have HPER:=Aa hper
 have HPW:=Aa hpw
 have hri:=AY.1 hpi.2.2
 have HP:=Aa hp
 clear hper hpw hpi hprep hgp e hp
 have HL:=Aa ((Le.refl w).alloc (.cells #[.int .i64 q.kind,.int .i64 q.who,.int .i64 q.room,.int .i64 q.rights,.int .i64 q.track,qs,.int .i64 q.layer,.int .i64 q.tid] 31))
 have HX:=Aa (heap_alloc_new w (.cells #[.int .i64 q.kind,.int .i64 q.who,.int .i64 q.room,.int .i64 q.rights,.int .i64 q.track,qs,.int .i64 q.layer,.int .i64 q.tid] 31))
 have H0:=Aa h
 obtain⟨R,hR⟩:∃ R,R=DoP M w a (s.subscribe q):=⟨_,rfl⟩
 rw[← hR]
 have HR:=Aa hR
 clear hR h
 show Calls Tryz.prog 167 #[.pointer (some ⟨a,0,none⟩),.agg #[.int .i64 q.kind,.int .i64 q.who,.int .i64 q.room,.int .i64 q.rights,.int .i64 q.track,qs,.int .i64 q.layer,.int .i64 q.tid]] w R
 go_enter Tryz.func167,Tryz.ntmps167
 go_upto_region 1 with fail
 generalize w.alloc (.cells #[.int .i64 q.kind,.int .i64 q.who,.int .i64 q.room,.int .i64 q.rights,.int .i64 q.track,qs,.int .i64 q.layer,.int .i64 q.tid] 31)=w1 at *
 generalize w.heap.size=gx at *
 have HD1:=Aa (H0.out.le (HL.out.trans (Le.refl w1).drew))
 have HXD1:=Aa ((Le.refl w1).drew.heap HX.out)
 refine' Aj 10 6 12 Le (Is _::Is _::Is _::Is _::Is _::Is _::Is _::Is _::Is _::Is _::[]) ([]::[0]::[1]::[]::[3]::[2,4]::[5]::[6]::[6]::[7]::[]) (by kernel_rfl) (by kernel_rfl) (by rfl) (by kernel_rfl) (by kernel_rfl) Le.refl (fun _ _ _ h h'=>h.trans h') ⟨St.is,St.is,St.is,St.is,St.is,St.is,St.is,St.is,St.is,St.is,trivial⟩ ?m1
 case m1 =>
  simp (maxSteps:=100000000) only [AR,Bv,AK,AC,An,AD,Am,Au,Act.put,List.setIfInBounds_toArray,List.set_cons_succ,List.set_cons_zero,List.getElem?_cons_zero,List.getElem?_cons_succ,List.take_succ_cons,List.take_zero,List.drop_succ_cons,List.drop_zero,List.cons_append,List.nil_append,List.length_cons,List.length_nil,Nat.reduceAdd]
  intro x0 x1 x2 x3 x4 x5 x6 x7 x8 x9
  refine⟨⟨?_,?_,?_,?_,?_,?_,?_,?_,?_,?_,trivial⟩,?_⟩
  ·intro wo hw KQ hK;go_simp;exact hK _ _ .r .m
  ·intro wo hw h0 KQ hK;cases h0;go_simp;exact hK _ _ .r .m
  ·intro wo hw h1 KQ hK;cases h1;refine cast (if_pos (show Region.wanted _ _=true from rfl)).symm ?_;have hz:=(hw.heap HD1.out.ha);refine Av 62 (.tmp 13) rfl (cs:=[.int .i64 s.mp,.int .i64 s.mt,.int .i64 s.ms,.int .i64 s.ml,.slice (some ⟨gp,0,none⟩) s.people.length cpp,tv,.slice As s.subs.length cs]) _ rfl Tryz.underlying62 rfl (by kernel_rfl) hz ?_;exact hK _ _ .r .m
  ·intro wo hw KQ hK;go_simp;exact hK _ _ .r .m
  ·intro wo hw h3 KQ hK;cases h3;have kk:=Af (hw.heap HXD1.out) 1 (.int .i64 q.who) rfl wo (Le.refl _);go_simp;exact hK _ _ .r .m
  ·intro wo hw h2 h4 KQ hK;cases h2;cases h4;go_simp;refine (Cd (HD1.out.D.le hw) ok fw _).mono ?_;rintro e w' ⟨rfl,hb⟩;exact hK _ _ (Le.mk hb) (Is.mk _ _)
  ·intro wo hw h5 KQ hK;cases h5;go_simp;exact hK _ _ .r .m
  ·intro wo hw h6 KQ hK;cases h6;go_simp;exact hK _ _ .r .m
  ·intro wo hw h6 KQ hK;cases h6;go_simp;exact hK _ _ .r .m
  ·intro wo hw h7 KQ hK;cases h7;go_simp;exact hK _ _ .r .m
  ·intro wz hz h0 h1 h2 h3 h4 h5 h6 h7 h8 h9;cases h0;cases h1;cases h2;cases h3;cases h4;cases h5;cases h6;cases h7;cases h8;cases h9;skip
   have HLa:=Aa ((HL.out.trans (Le.refl w1).drew).trans hz)
   have HXa:=Aa (hz.heap HXD1.out)
   clear HD1 HXD1 HX HL hz
   go_upto_region 2 with fail
   have HD2:=Aa (H0.out.le (HLa.out.trans (Le.refl wz).drew))
   have HXD2:=Aa ((Le.refl wz).drew.heap HXa.out)
   refine' Aj 10 6 21 Le (Is _::Is _::Is _::Is _::Is _::Is _::Is _::Is _::Is _::Is _::[]) ([]::[0]::[1]::[]::[3]::[2,4]::[5]::[6]::[6]::[7]::[]) (by kernel_rfl) (by kernel_rfl) (by rfl) (by kernel_rfl) (by kernel_rfl) Le.refl (fun _ _ _ h h'=>h.trans h') ⟨St.is,St.is,St.is,St.is,St.is,St.is,St.is,St.is,St.is,St.is,trivial⟩ ?m2
   case m2 =>
    simp (maxSteps:=100000000) only [AR,Bv,AK,AC,An,AD,Am,Au,Act.put,List.setIfInBounds_toArray,List.set_cons_succ,List.set_cons_zero,List.getElem?_cons_zero,List.getElem?_cons_succ,List.take_succ_cons,List.take_zero,List.drop_succ_cons,List.drop_zero,List.cons_append,List.nil_append,List.length_cons,List.length_nil,Nat.reduceAdd]
    intro x0 x1 x2 x3 x4 x5 x6 x7 x8 x9
    refine⟨⟨?_,?_,?_,?_,?_,?_,?_,?_,?_,?_,trivial⟩,?_⟩
    ·intro wo hw KQ hK;go_simp;exact hK _ _ .r .m
    ·intro wo hw h0 KQ hK;cases h0;go_simp;exact hK _ _ .r .m
    ·intro wo hw h1 KQ hK;cases h1;refine cast (if_pos (show Region.wanted _ _=true from rfl)).symm ?_;have hz:=(hw.heap HD2.out.ha);refine Av 62 (.tmp 22) rfl (cs:=[.int .i64 s.mp,.int .i64 s.mt,.int .i64 s.ms,.int .i64 s.ml,.slice (some ⟨gp,0,none⟩) s.people.length cpp,tv,.slice As s.subs.length cs]) _ rfl Tryz.underlying62 rfl (by kernel_rfl) hz ?_;exact hK _ _ .r .m
    ·intro wo hw KQ hK;go_simp;exact hK _ _ .r .m
    ·intro wo hw h3 KQ hK;cases h3;have kk:=Af (hw.heap HXD2.out) 4 (.int .i64 q.track) rfl wo (Le.refl _);go_simp;exact hK _ _ .r .m
    ·intro wo hw h2 h4 KQ hK;cases h2;cases h4;go_simp;refine (Em (HD2.out.D.le hw) ok fw _).mono ?_;rintro e w' ⟨rfl,hb⟩;exact hK _ _ (Le.mk hb) (Is.mk _ _)
    ·intro wo hw h5 KQ hK;cases h5;go_simp;exact hK _ _ .r .m
    ·intro wo hw h6 KQ hK;cases h6;go_simp;exact hK _ _ .r .m
    ·intro wo hw h6 KQ hK;cases h6;go_simp;exact hK _ _ .r .m
    ·intro wo hw h7 KQ hK;cases h7;go_simp;exact hK _ _ .r .m
    ·intro wz hz h0 h1 h2 h3 h4 h5 h6 h7 h8 h9;cases h0;cases h1;cases h2;cases h3;cases h4;cases h5;cases h6;cases h7;cases h8;cases h9;skip
     have HLb:=Aa ((HLa.out.trans (Le.refl _).drew).trans hz)
     have HXb:=Aa (hz.heap HXD2.out)
     clear HD2 HXD2 HXa HLa hz
     go_upto_region 3 with fail
     have HD3:=Aa (H0.out.le (HLb.out.trans (Le.refl wz).drew))
     have HXD3:=Aa ((Le.refl wz).drew.heap HXb.out)
     refine' Aj 12 8 30 Le (Is _::Is _::Is _::Is _::Is _::Is _::Is _::Is _::Is _::Is _::Is _::Is _::[]) ([]::[0]::[1]::[]::[3]::[]::[5]::[2,4,6]::[7]::[8]::[8]::[9]::[]) (by kernel_rfl) (by kernel_rfl) (by rfl) (by kernel_rfl) (by kernel_rfl) Le.refl (fun _ _ _ h h'=>h.trans h') ⟨St.is,St.is,St.is,St.is,St.is,St.is,St.is,St.is,St.is,St.is,St.is,St.is,trivial⟩ ?m3
     case m3 =>
      simp (maxSteps:=100000000) only [AR,Bv,AK,AC,An,AD,Am,Au,Act.put,List.setIfInBounds_toArray,List.set_cons_succ,List.set_cons_zero,List.getElem?_cons_zero,List.getElem?_cons_succ,List.take_succ_cons,List.take_zero,List.drop_succ_cons,List.drop_zero,List.cons_append,List.nil_append,List.length_cons,List.length_nil,Nat.reduceAdd]
      intro x0 x1 x2 x3 x4 x5 x6 x7 x8 x9 x10 x11
      refine⟨⟨?_,?_,?_,?_,?_,?_,?_,?_,?_,?_,?_,?_,trivial⟩,?_⟩
      ·intro wo hw KQ hK;go_simp;exact hK _ _ .r .m
      ·intro wo hw h0 KQ hK;cases h0;go_simp;exact hK _ _ .r .m
      ·intro wo hw h1 KQ hK;cases h1;refine cast (if_pos (show Region.wanted _ _=true from rfl)).symm ?_;have hz:=(hw.heap HD3.out.ha);refine Av 62 (.tmp 31) rfl (cs:=[.int .i64 s.mp,.int .i64 s.mt,.int .i64 s.ms,.int .i64 s.ml,.slice (some ⟨gp,0,none⟩) s.people.length cpp,tv,.slice As s.subs.length cs]) _ rfl Tryz.underlying62 rfl (by kernel_rfl) hz ?_;exact hK _ _ .r .m
      ·intro wo hw KQ hK;go_simp;exact hK _ _ .r .m
      ·intro wo hw h3 KQ hK;cases h3;have kk:=Af (hw.heap HXD3.out) 1 (.int .i64 q.who) rfl wo (Le.refl _);go_simp;exact hK _ _ .r .m
      ·intro wo hw KQ hK;go_simp;exact hK _ _ .r .m
      ·intro wo hw h5 KQ hK;cases h5;have kk:=Af (hw.heap HXD3.out) 4 (.int .i64 q.track) rfl wo (Le.refl _);go_simp;exact hK _ _ .r .m
      ·intro wo hw h2 h4 h6 KQ hK;cases h2;cases h4;cases h6;go_simp;refine (D2 (HD3.out.D.le hw) ok fw _ _).mono ?_;rintro e w' ⟨rfl,hb⟩;exact hK _ _ (Le.mk hb) (Is.mk _ _)
      ·intro wo hw h7 KQ hK;cases h7;go_simp;exact hK _ _ .r .m
      ·intro wo hw h8 KQ hK;cases h8;go_simp;exact hK _ _ .r .m
      ·intro wo hw h8 KQ hK;cases h8;go_simp;exact hK _ _ .r .m
      ·intro wo hw h9 KQ hK;cases h9;go_simp;exact hK _ _ .r .m
      ·intro wz hz h0 h1 h2 h3 h4 h5 h6 h7 h8 h9 h10 h11;cases h0;cases h1;cases h2;cases h3;cases h4;cases h5;cases h6;cases h7;cases h8;cases h9;cases h10;cases h11;skip
       have HLc:=Aa ((HLb.out.trans (Le.refl _).drew).trans hz)
       have HXc:=Aa (hz.heap HXD3.out)
       clear HD3 HXD3 HXb HLb hz
       have HZ:=Aa (H0.out.le HLc.out)
       have hiI:(s.pAt q.who:Int)<(s.people.length:Int):=by omega
       have y4:wz.cell? ⟨a,4,none⟩=some (.slice (some ⟨gp,0,none⟩) s.people.length cpp):=Ae HZ.out.ha 4
       have y5:=HLc.out.cell KR.out
       by_cases hr:s.people[s.pAt q.who].rights / 2%2=0
       ·have HE:=Aa (show s.subscribe q=(s,24) by rw[DS.subscribe,HPER.out,if_pos hr])
        rcases (show s.people[s.pAt q.who].rights=0∨s.people[s.pAt q.who].rights=1 by omega) with hv | hv <;>
        ·rw[hv] at y5
         clear hr hv hri
         go_wp2_with fail
         rw[HR.out,HE.out]
         exact DoP.same H0.out HLc.out rfl
       have HRT:=Aa hr
       have hrv:s.people[s.pAt q.who].rights=2∨s.people[s.pAt q.who].rights=3:=by omega
       have hpure:wz.cell? ⟨gp,s.pAt q.who*3+2,none⟩=some (.int .i64 2)∨wz.cell? ⟨gp,s.pAt q.who*3+2,none⟩=some (.int .i64 3):=by
        rcases hrv with e | e
        ·left;rw[y5,e]
        ·right;rw[y5,e]
       clear y5 hrv hri hr
       rcases hpure with y5 | y5 <;>
       ·go_upto_region 6 with fail
        clear y4 y5
        cases hT:s.hasT q.track
        ·have HE:=Aa (show s.subscribe q=(s,21) by rw[DS.subscribe,HPER.out,if_neg HRT.out,hT];rfl)
         clear hT
         go_wp2_with fail
         rw[HR.out,HE.out]
         exact DoP.same H0.out HLc.out rfl
        have HT:=Aa hT
        obtain⟨htl,htid⟩:=EK ok hT
        clear hT
        obtain⟨t0,e⟩:∃ t0,ts[s.tAt q.track]?=some t0:=⟨_,List.getElem?_eq_getElem (show s.tAt q.track<ts.length by rw[H0.out.D.lenT];exact htl)⟩
        obtain⟨gt,ctt,pret,postt,htv,_,hpret,hgt⟩:=HZ.out.D.hT.cut (i:=s.tAt q.track) (x:=trC t0) (by rw[List.getElem?_map,e];rfl)
        rw[List.length_map] at htv
        subst htv
        have h8:s.tracks[s.tAt q.track]?=some t0.1:=by rw[← H0.out.D.eT,List.getElem?_map,e];rfl
        have HTRK:=Aa (show (s.trk q.track).owner=t0.1.owner by rw[DS.trk,List.getD,h8,Option.getD_some])
        have HPO:=Aa (show s.hasP t0.1.owner=true from (ok.tIn _ (List.mem_of_getElem? h8)).2.2.1)
        have KO0:=Aa (show wz.cell? ⟨gt,s.tAt q.track*4+1,none⟩=some (.int .i64 t0.1.owner) by
         have h0:pret.length≤s.tAt q.track*4+1:=by rw[hpret];omega
         rw[Ae hgt,List.getElem?_toArray,List.getElem?_append_right h0,hpret,Nat.add_sub_cancel_left];rfl)
        have hkI:(s.tAt q.track:Int)<(ts.length:Int):=by rw[H0.out.D.lenT];omega
        clear e h8 hpret hgt htid
        generalize t0.1.owner=ow at *
        go_upto_region 8 with fail
        have HD8:=Aa (H0.out.le (HLc.out.trans (Le.refl wz).drew))
        have KO:=Aa ((Le.refl wz).drew.cell KO0.out)
        have KM8:=Aa ((HLc.out.trans (Le.refl wz).drew).cell KM.out)
        have HXd:=Aa ((Le.refl wz).drew.heap HXc.out)
        refine' Aj 19 19 55 Le (Is _::Is _::Is _::Is _::Is _::Is _::Is _::Is _::Is _::Is _::Is _::Is _::Is _::Is _::Is _::Is _::Is _::Is _::Is _::[]) ([]::[]::[1]::[2]::[3]::[]::[4,5]::[6]::[7]::[0,8]::[]::[10]::[11]::[12]::[]::[13,14]::[15]::[16]::[9,17]::[]) (by kernel_rfl) (by kernel_rfl) (by rfl) (by kernel_rfl) (by kernel_rfl) Le.refl (fun _ _ _ h h'=>h.trans h') ⟨St.is,St.is,St.is,St.is,St.is,St.is,St.is,St.is,St.is,St.is,St.is,St.is,St.is,St.is,St.is,St.is,St.is,St.is,St.is,trivial⟩ ?m8
        case m8 =>
         simp (maxSteps:=100000000) only [AR,Bv,AK,AC,An,AD,Am,Au,List.set_cons_succ,List.set_cons_zero,List.getElem?_cons_zero,List.getElem?_cons_succ,List.take_succ_cons,List.take_zero,List.drop_succ_cons,List.drop_zero,List.cons_append,List.nil_append,List.length_cons,List.length_nil,Nat.reduceAdd]
         intro x0 x1 x2 x3 x4 x5 x6 x7 x8 x9 x10 x11 x12 x13 x14 x15 x16 x17 x18
         refine⟨⟨?_,?_,?_,?_,?_,?_,?_,?_,?_,?_,?_,?_,?_,?_,?_,?_,?_,?_,?_,trivial⟩,?_⟩
         ·intro wo hw KQ hK;go_simp;exact hK _ _ .r .m
         ·intro wo hw KQ hK;go_simp;exact hK _ _ .r .m
         ·intro wo hw h1 KQ hK;cases h1;go_simp;exact hK _ _ .r .m
         ·intro wo hw h2 KQ hK;cases h2;go_simp;exact hK _ _ .r .m
         ·intro wo hw h3 KQ hK;cases h3;have kk:=Af (hw.heap HD8.out.ha) 5 (.slice (some ⟨gt,0,none⟩) ts.length ctt) rfl wo (Le.refl _);go_simp;exact hK _ _ .r .m
         ·intro wo hw KQ hK;go_simp;exact hK _ _ .r .m
         ·intro wo hw h4 h5 KQ hK;cases h4;cases h5;go_simp;exact hK _ _ .r .m
         ·intro wo hw h6 KQ hK;cases h6;go_simp;exact hK _ _ .r .m
         ·intro wo hw h7 KQ hK;cases h7;have kk:=hw.cell KO.out;go_simp;exact hK _ _ .r .m
         ·intro wo hw h0 h8 KQ hK;cases h0;cases h8;go_simp;refine (room_any (HD8.out.le hw) ok fw _ HPO.out).mono ?_;rintro e w' ⟨rfl,hb⟩;exact hK _ _ (Le.mk hb) (Is.mk _ _)
         ·intro wo hw KQ hK;go_simp;exact hK _ _ .r .m
         ·intro wo hw h10 KQ hK;cases h10;go_simp;exact hK _ _ .r .m
         ·intro wo hw h11 KQ hK;cases h11;go_simp;exact hK _ _ .r .m
         ·intro wo hw h12 KQ hK;cases h12;have kk:=Af (hw.heap HD8.out.ha) 4 (.slice (some ⟨gp,0,none⟩) s.people.length cpp) rfl wo (Le.refl _);go_simp;exact hK _ _ .r .m
         ·intro wo hw KQ hK;go_simp;exact hK _ _ .r .m
         ·intro wo hw h13 h14 KQ hK;cases h13;cases h14;go_simp;exact hK _ _ .r .m
         ·intro wo hw h15 KQ hK;cases h15;go_simp;exact hK _ _ .r .m
         ·intro wo hw h16 KQ hK;cases h16;have kk:=hw.cell KM8.out;go_simp;exact hK _ _ .r .m
         ·intro wo hw h9 h17 KQ hK;cases h9;cases h17;go_simp;exact hK _ _ .r .m
         ·intro wz hz h0 h1 h2 h3 h4 h5 h6 h7 h8 h9 h10 h11 h12 h13 h14 h15 h16 h17 h18;cases h0;cases h1;cases h2;cases h3;cases h4;cases h5;cases h6;cases h7;cases h8;cases h9;cases h10;cases h11;cases h12;cases h13;cases h14;cases h15;cases h16;cases h17;cases h18;skip
          have HLd:=Aa ((HLc.out.trans (Le.refl _).drew).trans hz)
          have HXe:=Aa (hz.heap HXd.out)
          clear HD8 KO KM8 HXd HXc HLc HZ KO0 hz
          by_cases hrm:¬ (s.per ow).room=s.people[s.pAt q.who].room
          ·have HE:=Aa (show s.subscribe q=(s,24) by rw[DS.subscribe,HPER.out,if_neg HRT.out,HT.out,if_neg (by simp),HTRK.out,if_pos hrm])
           have hz1:((s.per ow).room !=s.people[s.pAt q.who].room)=true:=by rw[bne_iff_ne];exact hrm
           clear hrm
           go_wp2_with fail
           rw[HR.out,HE.out]
           exact DoP.same H0.out HLd.out rfl
          have HRM:=Aa hrm
          have hz1:((s.per ow).room !=s.people[s.pAt q.who].room)=false:=by rw[bne_eq_false_iff_eq];exact Classical.not_not.1 hrm
          clear hrm
          cases hS:s.hasS q.who q.track
          rotate_left
          ·have HE:=Aa (show s.subscribe q=(s,22) by rw[DS.subscribe,HPER.out,if_neg HRT.out,HT.out,if_neg (by simp),HTRK.out,if_neg HRM.out,hS,if_pos rfl])
           clear hS
           go_wp2_with fail
           rw[HR.out,HE.out]
           exact DoP.same H0.out HLd.out rfl
          have HS:=Aa hS
          clear hS
          go_wp2_with (refine Al rfl 31 (.tmp 3) rfl (cs:=[.int .i64 q.kind,.int .i64 q.who,.int .i64 q.room,.int .i64 q.rights,.int .i64 q.track,qs,.int .i64 q.layer,.int .i64 q.tid]) _ rfl Tryz.underlying31 rfl (by kernel_rfl) HXe.out ?_)
          refine (EP q qs wz).mono ?_
          rintro e w5 ⟨rfl,hb⟩
          have HL5:=Aa (HLd.out.trans (Le.mk hb))
          have HX5:=Aa ((Le.mk hb).heap HXe.out)
          clear hb HLd HXe
          cases hly:DS.layers q
          ·have HE:=Aa (show s.subscribe q=(s,1) by rw[DS.subscribe,HPER.out,if_neg HRT.out,HT.out,if_neg (by simp),HTRK.out,if_neg HRM.out,HS.out,if_neg (by simp),hly,if_pos (by simp)])
           clear hly
           go_wp2_with fail
           rw[HR.out,HE.out]
           exact DoP.same H0.out HL5.out rfl
          have HLY:=Aa hly
          clear hly
          go_upto_region 14 with fail
          have HD14:=Aa (H0.out.le (HL5.out.trans (Le.refl w5).drew))
          have HXD14:=Aa ((Le.refl w5).drew.heap HX5.out)
          refine' Aj 10 10 81 Le (Is _::Is _::Is _::Is _::Is _::Is _::Is _::Is _::Is _::Is _::[]) ([]::[]::[1]::[0,2]::[]::[4]::[5]::[6]::[7]::[3,8]::[]) (by kernel_rfl) (by kernel_rfl) (by rfl) (by kernel_rfl) (by kernel_rfl) Le.refl (fun _ _ _ h h'=>h.trans h') ⟨St.is,St.is,St.is,St.is,St.is,St.is,St.is,St.is,St.is,St.is,trivial⟩ ?m14
          case m14 =>
           simp (maxSteps:=100000000) only [AR,Bv,AK,AC,An,AD,Am,Au,List.set_cons_succ,List.set_cons_zero,List.getElem?_cons_zero,List.getElem?_cons_succ,List.take_succ_cons,List.take_zero,List.drop_succ_cons,List.drop_zero,List.cons_append,List.nil_append,List.length_cons,List.length_nil,Nat.reduceAdd]
           intro x0 x1 x2 x3 x4 x5 x6 x7 x8 x9
           refine⟨⟨?_,?_,?_,?_,?_,?_,?_,?_,?_,?_,trivial⟩,?_⟩
           ·intro wo hw KQ hK;go_simp;exact hK _ _ .r .m
           ·intro wo hw KQ hK;go_simp;exact hK _ _ .r .m
           ·intro wo hw h1 KQ hK;cases h1;have kk:=Af (hw.heap HXD14.out) 1 (.int .i64 q.who) rfl wo (Le.refl _);go_simp;exact hK _ _ .r .m
           ·intro wo hw h0 h2 KQ hK;cases h0;cases h2;go_simp;refine (has_any (HD14.out.le hw) ok fw _).mono ?_;rintro e w' ⟨rfl,hb⟩;exact hK _ _ (Le.mk hb) (Is.mk _ _)
           ·intro wo hw KQ hK;go_simp;exact hK _ _ .r .m
           ·intro wo hw h4 KQ hK;cases h4;go_simp;exact hK _ _ .r .m
           ·intro wo hw h5 KQ hK;cases h5;go_simp;exact hK _ _ .r .m
           ·intro wo hw h6 KQ hK;cases h6;go_simp;exact hK _ _ .r .m
           ·intro wo hw h7 KQ hK;cases h7;have kk:=Af (hw.heap HD14.out.ha) 2 (.int .i64 s.ms) rfl wo (Le.refl _);go_simp;exact hK _ _ .r .m
           ·intro wo hw h3 h8 KQ hK;cases h3;cases h8;go_simp;exact hK _ _ .r .m
           ·intro wz hz h0 h1 h2 h3 h4 h5 h6 h7 h8 h9;cases h0;cases h1;cases h2;cases h3;cases h4;cases h5;cases h6;cases h7;cases h8;cases h9;skip
            have HL6:=Aa ((HL5.out.trans (Le.refl w5).drew).trans hz)
            have HX6:=Aa (hz.heap HXD14.out)
            clear HD14 HXD14 HL5 HX5 hz
            by_cases hms:s.ms≤(s.has q.who:Int)
            ·have HE:=Aa (show s.subscribe q=(s,25) by rw[DS.subscribe,HPER.out,if_neg HRT.out,HT.out,if_neg (by simp),HTRK.out,if_neg HRM.out,HS.out,if_neg (by simp),HLY.out,if_neg (by simp),if_pos hms])
             go_wp2_with fail
             rw[HR.out,HE.out]
             exact DoP.same H0.out HL6.out rfl
            have HMS:=Aa hms
            have HZ6:=Aa (H0.out.le HL6.out)
            have z6:wz.cell? ⟨a,6,none⟩=some (.slice As s.subs.length cs):=Ae HZ6.out.ha 6
            have z3:wz.cell? ⟨a,3,none⟩=some (.int .i64 s.ml):=Ae HZ6.out.ha 3
            go_upto_region 16 with fail
            clear hms
            by_cases hml:s.ml≤(s.subs.length:Int)
            ·have HE:=Aa (show s.subscribe q=(s,20) by rw[DS.subscribe,HPER.out,if_neg HRT.out,HT.out,if_neg (by simp),HTRK.out,if_neg HRM.out,HS.out,if_neg (by simp),HLY.out,if_neg (by simp),if_neg HMS.out,if_pos hml])
             go_quiet (fail)
             go_wp2_with fail
             rw[HR.out,HE.out]
             exact DoP.same H0.out (HL6.out.drewN _) rfl
            have HE:=Aa (show s.subscribe q=(s.setSubs (AV s.subs (s.sAt q.who q.track) ⟨q.who,q.track,q.layer,q.tid,false⟩),0) by rw[DS.subscribe,HPER.out,if_neg HRT.out,HT.out,if_neg (by simp),HTRK.out,if_neg HRM.out,HS.out,if_neg (by simp),HLY.out,if_neg (by simp),if_neg HMS.out,if_neg hml])
            go_quiet (fail)
            have HLq:=Aa (HL6.out.drewN nq)
            have HXq:=Aa (((Le.refl wz).drewN nq).heap HX6.out)
            clear z6 z3 HZ6 hml HL6 HX6
            generalize wz.drewN nq=wz8 at *
            go_upto_region 18 with fail
            have HD18:=Aa (H0.out.le (HLq.out.trans (Le.refl wz8).drew))
            have HX18:=Aa ((Le.refl wz8).drew.heap HXq.out)
            refine' AB 16 19 19 103 Le (Gr (Value.slice As s.subs.length cs).ownBlock) (IsD _::IsD _::IsD _::IsD _::IsD _::IsD _::IsD _::IsD _::IsD _::IsD _::IsD _::IsD _::IsD _::IsD _::IsD _::(fun _ v W=>BsF (Value.slice As s.subs.length cs).ownBlock (BC ⟨q.who,q.track,q.layer,q.tid,false⟩) 133 v W)::(fun _ v W=>Io M wz8.drew 133 5 (Value.slice As s.subs.length cs).ownBlock (AV (s.subs.map BC) (s.sAt q.who q.track) (BC ⟨q.who,q.track,q.layer,q.tid,false⟩)) v W)::IsD _::IsD _::[]) ([]::[]::[1]::[2]::[3]::[]::[]::[6]::[]::[8]::[]::[10]::[]::[12]::[7,9,11,13]::[14]::[4,5,15]::[0]::[17]::[]) (by kernel_rfl) (by kernel_rfl) (by rfl) (by kernel_rfl) (by kernel_rfl) Le.refl (fun _ _ _ h h'=>h.trans h') (fun _ _ _ h h'=>h.trans h') (fun _ _ h=>Gr.of_le h) ⟨StQ.is,StQ.is,StQ.is,StQ.is,StQ.is,StQ.is,StQ.is,StQ.is,StQ.is,StQ.is,StQ.is,StQ.is,StQ.is,StQ.is,StQ.is,(fun _ _ _ _ h hb=>BsF.gr hb h),(fun _ _ _ _ h hb=>Io.le hb h),StQ.is,StQ.is,trivial⟩ ?m18
            case m18 =>
             simp (maxSteps:=100000000) only [AR,DU,Nat.reduceBEq,cond_true,cond_false,AU,AH,AE,B6,AD,Am,Au,List.set_cons_succ,List.set_cons_zero,List.map_cons,List.getElem?_cons_zero,List.getElem?_cons_succ,Option.getD_some,List.map_nil,List.take_succ_cons,List.take_zero,List.drop_succ_cons,List.drop_zero,List.cons_append,List.nil_append,List.length_cons,List.length_nil,Nat.reduceAdd]
             intro x0 x1 x2 x3 x4 x5 x6 x7 x8 x9 x10 x11 x12 x13 x14 x15 x16 x17 x18
             refine⟨⟨?_,?_,?_,?_,?_,?_,?_,?_,?_,?_,?_,?_,?_,?_,?_,?_,?_,?_,?_,trivial⟩,?_⟩
             ·intro wo hw KQ hK;go_simp;exact hK _ _ .r .m
             ·intro wo hw KQ hK;go_simp;exact hK _ _ .r .m
             ·intro wo hw h1 KQ hK;cases h1;go_simp;exact hK _ _ .r .m
             ·intro wo hw h2 KQ hK;cases h2;go_simp;exact hK _ _ .r .m
             ·intro wo hw h3 KQ hK;cases h3;have kk:=Af (hw.heap HD18.out.ha (HD18.out.D.hS.row_ne HD18.out.ha (by decide))) 6 (.slice As s.subs.length cs) rfl wo (Le.refl _);go_simp;exact hK _ _ .r .m
             ·intro wo hw KQ hK;go_simp;exact hK _ _ .r .m
             ·intro wo hw KQ hK;go_simp;exact hK _ _ .r .m
             ·intro wo hw h6 KQ hK;cases h6;have kk:=Af (hw.heap HX18.out (HD18.out.D.hS.row_ne HX18.out (by decide))) 1 (.int .i64 q.who) rfl wo (Le.refl _);go_simp;exact hK _ _ .r .m
             ·intro wo hw KQ hK;go_simp;exact hK _ _ .r .m
             ·intro wo hw h8 KQ hK;cases h8;have kk:=Af (hw.heap HX18.out (HD18.out.D.hS.row_ne HX18.out (by decide))) 4 (.int .i64 q.track) rfl wo (Le.refl _);go_simp;exact hK _ _ .r .m
             ·intro wo hw KQ hK;go_simp;exact hK _ _ .r .m
             ·intro wo hw h10 KQ hK;cases h10;have kk:=Af (hw.heap HX18.out (HD18.out.D.hS.row_ne HX18.out (by decide))) 6 (.int .i64 q.layer) rfl wo (Le.refl _);go_simp;exact hK _ _ .r .m
             ·intro wo hw KQ hK;go_simp;exact hK _ _ .r .m
             ·intro wo hw h12 KQ hK;cases h12;have kk:=Af (hw.heap HX18.out (HD18.out.D.hS.row_ne HX18.out (by decide))) 7 (.int .i64 q.tid) rfl wo (Le.refl _);go_simp;exact hK _ _ .r .m
             ·intro wo hw h7 h9 h11 h13 KQ hK;cases h7;cases h9;cases h11;cases h13;go_simp;exact hK _ _ .r .m
             ·intro wo hw h14 KQ hK;cases h14;go_simp;exact hK _ _ ((Le.refl _).alloc _) (BsF.new (BC ⟨q.who,q.track,q.layer,q.tid,false⟩) _ (fun k hk=>Nat.lt_of_lt_of_le (HD18.out.D.hS.lt hk) hw.size))
             ·intro wo hw h4 h5 h15 KQ hK;cases h4;cases h5;obtain⟨HBS⟩:=h15;go_simp;obtain⟨gq,rfl,hq1,hq2⟩:=HBS;refine (ins_sub (HD18.out.D.hS.le hw) (by rw[List.length_map];omega) (s.sAt q.who q.track) (by rw[List.length_map];exact sAt_le s q.who q.track) (BC ⟨q.who,q.track,q.layer,q.tid,false⟩) rfl (by simp[BC,Value.oneCell']) (Cy s) gq hq2 hq1).mono ?_;rintro e w' ⟨v',rfl,ho,hf⟩;exact hK _ _ (Gr.of_fp hf) ⟨ho.mono (fun k _ hk=>hk.elim .inl fun hk=>.inr (Nat.le_trans hw.size hk)),(Gr.of_le hw).trans (Gr.of_fp hf)⟩
             ·intro wo hw h0 KQ hK;cases h0;go_simp;exact hK _ _ .r .m
             ·intro wo hw h17 KQ hK;cases h17;go_simp;exact hK _ _ .r .m
             ·intro wz hz h0 h1 h2 h3 h4 h5 h6 h7 h8 h9 h10 h11 h12 h13 h14 h15 h16 h17 h18;cases h0;cases h1;cases h2;cases h3;cases h4;cases h5;cases h6;cases h7;cases h8;cases h9;cases h10;cases h11;cases h12;cases h13;cases h14;obtain⟨HBS⟩:=h15;obtain⟨HI1,HI2⟩:=h16;cases h17;cases h18;skip
              have HF9:=Aa (Fp.of_gr HI2)
              have HO9:=Aa HI1
              have HA9:=Aa (HF9.out.heap HD18.out.ha (fun e=>HD18.out.D.hS.row_ne HD18.out.ha (by decide) e))
              have H1C:=Aa (AF HI1)
              clear HI1 HI2
              go_wp2_with (refine Ao rfl 60 (.tmp 121) (.tmp 119) rfl [.int .i64 s.mp,.int .i64 s.mt,.int .i64 s.ms,.int .i64 s.ml,.slice (some ⟨gp,0,none⟩) s.people.length cpp,.slice (some ⟨gt,0,none⟩) ts.length ctt] (v:=x16) (old:=.slice As s.subs.length cs) (post:=[]) rfl rfl (by kernel_rfl) H1C.out HA9.out ?_;intro w9 h9 hg9;have H9:=Aa h9;have HG9:=Aa hg9;clear h9 hg9)
              rw[HR.out,HE.out]
              obtain⟨h8,h9⟩:=HD18.out.newSubs (l:=AV s.subs (s.sAt q.who q.track) ⟨q.who,q.track,q.layer,q.tid,false⟩) HF9.out (by rw[C8];exact HO9.out) HG9.out H9.out
              have hle:=HLq.out.trans (Le.refl wz8).drew
              exact⟨rfl,⟨_,_,_,_,h8.mono fun k _ hk=>hk.elim .inl fun hk=>.inr (Nat.le_trans hle.size hk)⟩,(Fp.of_le hle).trans h9⟩
end
end Go.Proofs.YtmcndlofaanjiaaGreat
