/- Texts of one claim, laid together: DfP InsP Del9 -/
import Derived.Test.YtmcndlofaanjiaaGreatJo08
import Derived.Test.YtmcndlofaanjiaaGreatJo12
/- slices.IndexFunc and slices.DeleteFunc at louver/delta.Person. (Written by gen_df.py.) -/
namespace Go.Proofs.YtmcndlofaanjiaaGreat
open Go.RowKit
set_option linter.unusedVariables false
set_option maxRecDepth 100000
set_option maxHeartbeats 8000000
theorem FG:SlT Tryz.prog 58 94 (.agg #[.int .i64 0,.int .i64 0,.int .i64 0]) 3 24:=⟨Tryz.underlying58,by kernel_rfl,rfl,by omega⟩
theorem ix_per {M:Nat→Prop} {w:World} {v:Value} {xs:List (List Value)} (hO:AA M w 94 3 v xs) (hn:xs.length≤1000000) (g:Nat) (cb:Array Value) (eg:∀ args w,(callFunc g args).run Tryz.prog w=.ok (.enter g args) w) (del:List Value→Bool) (I:Nat→World→Prop)
  (hI:∀ j W W',I j W→Fp (fun k=>v.ownBlock=some k) W W'→I j W') (hcall:∀ (j:Nat) (x:List Value) (W:World),xs[j]?=some x→I j W→Calls Tryz.prog g (#[.agg x.toArray]++cb) W fun e w'=>e=.returned (.bool (del x))∧I (j+1) w'∧KT 94 W w') (h0:I 0 w) :
  Calls Tryz.prog 229 #[v,.func (.func g) #[] cb] w fun e w'=>e=.returned (.int .i64 (if ixN del xs<xs.length then (ixN del xs:Int) else -1))∧I (if ixN del xs<xs.length then ixN del xs+1 else xs.length) w'∧KT 94 w w':=by
 obtain⟨A,cap,rfl,_,_,hcap⟩:=hO.cells
 have HO:=Aa hO
 have HI:=Aa hI
 have HC:=Aa hcall
 have H0:=Aa h0
 have HIX:Hd (∀ (k:Nat) (x:List Value),xs[k]?=some x→del x=true→(∀ (t:Nat) (y:List Value),t<k→xs[t]?=some y→del y=false)→ixN del xs=k):=Aa fun k x=>Fj
 have HIN:Hd ((∀ (t:Nat) (y:List Value),xs[t]?=some y→del y=false)→ixN del xs=xs.length):=Aa DX
 obtain⟨R,hR⟩:∃ R:Ending→World→Prop,R=fun e w'=>e=.returned (.int .i64 (if ixN del xs<xs.length then (ixN del xs:Int) else -1))∧I (if ixN del xs<xs.length then ixN del xs+1 else xs.length) w'∧KT 94 w w':=⟨_,rfl⟩
 rw[← hR]
 have HR:=Aa hR
 clear hR hO hI hcall h0
 go_enter Tryz.func229,Tryz.ntmps229
 go_wp2_with fail
 go_loopw [5,8] (fun _ j wr=>∃ k:Nat,k≤xs.length∧j=.int .i64 k∧Hd (I k wr)∧Hd (KT 94 w wr)∧Hd (∀ (t:Nat) (y:List Value),t<k→xs[t]?=some y→del y=false)) (fun _ j _=>xs.length - (intOf j).toNat)
 case atStart=>exact⟨0,Nat.zero_le _,rfl,H0,Aa (KT.refl _ _),Aa fun t y ht=>by omega⟩
 case round =>
  obtain⟨k,hk,rfl,HK,HT,HN⟩:=hrel
  rcases Nat.lt_or_ge k xs.length with hlt | hge
  ·have hltI:(k:Int)<(xs.length:Int):=by omega
   have e:=List.getElem?_eq_getElem hlt
   obtain⟨gr,hA,hrg⟩:=(HO.out.kt HT.out).elem e
   subst hA
   have RG:=Aa hrg
   have HL:=Aa (HO.out.len _ (List.mem_of_getElem? e))
   have HX:=Aa e
   have q1:IntKind.i64.wrap ((k:Int)+1)=((k+1:Nat):Int):=by rw[IntWalk.i64_in _ (by omega)];simp
   clear e hrg
   generalize xs[k]=x at *
   have HCC:=Aa (HC.out k x wr HX.out HK.out)
   cases hd:del x
   ·have HDD:=Aa hd
    clear hd
    go_wp2_with (refine wpList_load_mid rfl 94 (.tmp 14) rfl gr (k*3) rfl x _ RG.out Tryz.underlying94 rfl (by rw[HL.out];kernel_rfl) ?_)
    refine HCC.out.mono ?_
    rintro e w3 ⟨rfl,hi3,ht3⟩
    rw[HDD.out]
    have HI3:=Aa hi3
    have HT3:=Aa (HT.out.trans ht3)
    clear hi3 ht3
    go_wp2_with fail
    refine⟨⟨k+1,hlt,rfl,HI3,HT3,Aa fun t y ht hy=>?_⟩,by simp only[intOf];omega⟩
    rcases Nat.lt_or_ge t k with h | h
    ·exact HN.out t y h hy
    ·obtain rfl:t=k:=by omega
     rw[HX.out] at hy
     injection hy with hy
     rw[← hy];exact HDD.out
   ·have HDD:=Aa hd
    clear hd
    go_wp2_with (refine wpList_load_mid rfl 94 (.tmp 14) rfl gr (k*3) rfl x _ RG.out Tryz.underlying94 rfl (by rw[HL.out];kernel_rfl) ?_)
    refine HCC.out.mono ?_
    rintro e w3 ⟨rfl,hi3,ht3⟩
    rw[HDD.out]
    have HI3:=Aa hi3
    have HT3:=Aa (HT.out.trans ht3)
    clear hi3 ht3
    go_wp2_with fail
    rw[HR.out]
    have e9:=HIX.out k x HX.out HDD.out HN.out
    refine⟨?_,?_,HT3.out⟩
    ·rw[e9,if_pos hlt];rfl
    ·rw[e9,if_pos hlt];exact HI3.out
  ·have hgeI:¬ (k:Int)<(xs.length:Int):=by omega
   obtain rfl:k=xs.length:=by omega
   go_wp2_with fail
   rw[HR.out]
   have e9:=HIN.out fun t y hy=>HN.out t y (List.getElem?_eq_some_iff.1 hy).1 hy
   refine⟨?_,?_,HT.out⟩
   ·rw[e9,if_neg (Nat.lt_irrefl _)]
   ·rw[e9,if_neg (Nat.lt_irrefl _)];exact HK.out
def DfP_per (M:Nat→Prop) (v:Value) (xs:List (List Value)) (del:List Value→Bool) (I:Nat→World→Prop) (e:Ending) (w':World):Prop :=
 ∃ v',e=.returned v'∧AA M w' 94 3 v' (xs.filter fun x=>!del x)∧v'.ownBlock=v.ownBlock∧I xs.length w'
theorem df_per {M:Nat→Prop} {w:World} {v:Value} {xs:List (List Value)} (hO:AA M w 94 3 v xs) (hn:xs.length≤1000000) (g:Nat) (cb:Array Value) (eg:∀ args w,(callFunc g args).run Tryz.prog w=.ok (.enter g args) w) (del:List Value→Bool) (I:Nat→World→Prop)
  (hI:∀ j W W',I j W→Fp (fun k=>v.ownBlock=some k) W W'→I j W') (hcall:∀ (j:Nat) (x:List Value) (W:World),xs[j]?=some x→I j W→Calls Tryz.prog g (#[.agg x.toArray]++cb) W fun e w'=>e=.returned (.bool (del x))∧I (j+1) w'∧KT 94 W w') (h0:I 0 w) (h1:∀ x∈xs,∀ u∈x,u.oneCell'=true) :
  Calls Tryz.prog 198 #[v,.func (.func g) #[] cb] w (DfP_per M v xs del I):=by
 have HIX:=Aa (fun W hW=>ix_per (w:=W) (hO.le hW) hn g cb eg del I hI hcall (hI 0 w W h0 (Fp.of_le hW)))
 have HO:=Aa hO
 have HI:=Aa hI
 have HC:=Aa hcall
 have H1:=Aa h1
 obtain⟨R,hR⟩:∃ R:Ending→World→Prop,R=DfP_per M v xs del I:=⟨_,rfl⟩
 rw[← hR]
 have HR:=Aa hR
 clear hR hI hcall h0 h1
 obtain⟨i,hi⟩:∃ i,i=ixN del xs:=⟨_,rfl⟩
 rw[← hi] at HIX
 have HIE:=Aa hi
 clear hi
 go_enter Tryz.func198,Tryz.ntmps198
 go_wp2_with fail
 refine (HIX.out w (Le.refl w)).mono ?_
 rintro e w2 ⟨rfl,hi2,ht2⟩
 have HI2:=Aa hi2
 have HT2:=Aa ht2
 clear hi2 ht2 HIX
 rcases Nat.lt_or_ge i xs.length with hlt | hge
 ·rw[if_pos hlt] at HI2 ⊢
  have hz:((i:Int)==-1)=false:=by rw[beq_eq_false_iff_ne];omega
  rcases hO.val with ⟨_,e⟩ | ⟨gr,cap,cur,hv,hM,hg,hc,hm,hs,hr⟩
  ·subst e;simp at hlt
  ·subst hv
   obtain⟨x0,hx0,hd0⟩:∃ x,xs[i]?=some x∧del x=true:=by rw[HIE.out];exact GO (by rw[← HIE.out];exact hlt)
   obtain⟨hst1,hst2⟩:=C7.start hr (i:=i) (by rw[HIE.out];exact Ea del xs) hx0 hd0
   have HG2:=Aa (HT2.out.heap hg)
   have HF1:=Aa hst1
   have HF2:=Aa (show ((xs.take (i+1)).filter fun v=>!del v).length=i by rw[hst2,List.length_take];omega)
   have HCL:=Aa (show cur.toList.length=cap*3 by simpa using hs)
   have HM:=Aa hM
   have HCM:=Aa hm
   have q1:IntKind.i64.wrap ((i:Int)+1)=((i+1:Nat):Int):=by rw[IntWalk.i64_in _ (by omega)];simp
   clear hx0 hd0 hst1 hst2 hg hr hs hO hM hm
   go_wp2_with fail
   go_loopw [5,6,7] (fun s5 s6 _ wr=>∃ (j f:Nat) (cr:List Value),f<j∧j≤xs.length∧s6=.int .i64 j∧s5=.int .i64 f∧Hd (((xs.take j).filter fun v=>!del v).length=f)∧Hd (I j wr)∧Hd (wr.heap[gr]?=some (.cells cr.toArray 94 (0,0)))∧Hd (cr.length=cap*3)∧Hd (C7 cr 3 xs del j)) (fun _ s6 _ _=>xs.length - (intOf s6).toNat)
   case atStart=>exact⟨i+1,i,cur.toList,by omega,hlt,rfl,rfl,HF2,HI2,Aa (by rw[Array.toArray_toList];exact HG2.out),HCL,HF1⟩
   case round =>
    clear HF2 HI2 HG2 HCL HF1 q1 hz
    obtain⟨j,f,cr,hfj,hj,rfl,rfl,HF,HIj,HG,HCL,HD⟩:=hrel
    rcases Nat.lt_or_ge j xs.length with hjl | hjg
    ·have hjI:(j:Int)<(xs.length:Int):=by omega
     have hfI:(f:Int)<(xs.length:Int):=by omega
     have e:=List.getElem?_eq_getElem hjl
     have HX:=Aa e
     have HL:=Aa (HO.out.len _ (List.mem_of_getElem? e))
     have HU:=Aa (H1.out _ (List.mem_of_getElem? e))
     have HCC:=Aa (fun W=>HC.out j _ W e)
     have q1:IntKind.i64.wrap ((j:Int)+1)=((j+1:Nat):Int):=by rw[IntWalk.i64_in _ (by omega)];simp
     have q2:IntKind.i64.wrap ((f:Int)+1)=((f+1:Nat):Int):=by rw[IntWalk.i64_in _ (by omega)];simp
     clear e
     generalize xs[j]=x at *
     have RG:=Aa (show wr.rangeAt gr (j*3) x from fun k u hk=>by
      have hk3:k<3:=by rw[← HL.out];exact (List.getElem?_eq_some_iff.1 hk).1
      rw[Ae HG.out,List.getElem?_toArray,HD.out.back j x (Nat.le_refl _) HX.out k hk3,hk])
     go_upto_region 8 with (first | (refine wpList_load_mid rfl 94 (.tmp 24) rfl gr (j*3) rfl x _ RG.out Tryz.underlying94 rfl (by rw[HL.out];kernel_rfl) ?_) | (refine Ak rfl 94 (.tmp 7) (.tmp 25) rfl (cs:=x) (old:=[.int .i64 0,.int .i64 0,.int .i64 0]) rfl rfl (by rw[HL.out];kernel_rfl) HU.out (heap_alloc_new _ _) (by rw[HL.out];rfl) ?_;intro w3 h3 hg3;have H3:=Aa h3;have HL3:=Aa (show Le wr w3 from ((Le.refl wr).alloc _).box1 hg3 (Nat.le_refl _));clear h3 hg3))
     have HI3:=Aa (HI.out j wr w3 HIj.out (Fp.of_le HL3.out))
     have HG3:=Aa (HL3.out.heap HG.out)
     clear HIj HG RG HL3
     generalize wr.heap.size=gx at *
     go_wp2_with (refine Al rfl 94 (.tmp 7) rfl (cs:=x) _ rfl Tryz.underlying94 rfl (by rw[HL.out];kernel_rfl) H3.out ?_)
     refine (HCC.out w3 HI3.out).mono ?_
     rintro e w4 ⟨rfl,hi4,ht4⟩
     have HI4:=Aa hi4
     have HG4:=Aa (ht4.heap HG3.out)
     have H4:=Aa (ht4.heap H3.out)
     clear hi4 ht4 HI3 HG3 H3 HCC
     cases hd:del x
     ·have HDD:=Aa hd
      clear hd
      obtain⟨pre,old,post,hcr,hpre,hold⟩:=Ec HCL.out (show f<cap by omega)
      have HCR:=Aa hcr
      have HPRE:=Aa hpre
      have HOLD:=Aa hold
      clear hcr hpre hold
      go_wp2_with (first | (refine Al rfl 94 (.tmp 7) rfl (cs:=x) _ rfl Tryz.underlying94 rfl (by rw[HL.out];kernel_rfl) H4.out ?_) | (refine Bc rfl 94 (.tmp 33) (.tmp 32) rfl pre (cs:=x) (old:=old) (post:=post) (by rw[HPRE.out];rfl) rfl (by rw[HL.out];kernel_rfl) HU.out (by have:=HG4.out;rw[HCR.out,List.append_assoc] at this;exact this) (by rw[HL.out,HOLD.out]) ?_;intro w5 h5 hg5;have H5:=Aa h5;have HG5:=Aa hg5;clear h5 hg5))
      have hD2:=HD.out
      rw[HCR.out] at hD2
      obtain⟨k1,k2⟩:=hD2.keep HX.out HDD.out HL.out (by rw[HF.out];exact HPRE.out) HOLD.out
      refine⟨⟨j+1,f+1,pre++x++post,by omega,hjl,rfl,rfl,Aa ?_,Aa (HI.out _ w4 w5 HI4.out (Fp.of_grown HG5.out rfl)),Aa (by rw[List.append_assoc];exact H5.out),Aa ?_,Aa k1⟩,by simp only[intOf];omega⟩
      ·rw[k2,List.length_append,HF.out];rfl
      ·have:=HCL.out
       rw[HCR.out] at this
       simp only[List.length_append] at this ⊢
       rw[HL.out]
       have:=HOLD.out
       omega
     ·have HDD:=Aa hd
      clear hd
      go_wp2_with fail
      obtain⟨k1,k2⟩:=HD.out.skip HX.out HDD.out
      exact⟨⟨j+1,f,cr,by omega,hjl,rfl,rfl,Aa (by rw[k2];exact HF.out),HI4,HG4,HCL,Aa k1⟩,by simp only[intOf];omega⟩
    ·have hjI:¬ (j:Int)<(xs.length:Int):=by omega
     obtain rfl:j=xs.length:=by omega
     have hfn:f≤xs.length:=by omega
     have hfc:f<cap:=by omega
     have hfc2:¬ cap=f:=by omega
     have hfc3:f≤cap:=by omega
     have hmul:f*3+(xs.length - f)*3=xs.length*3:=by rw[← Nat.add_mul];congr 1;omega
     have hmul2:xs.length*3≤cap*3:=Nat.mul_le_mul_right _ hc
     have HML:=Aa (And.intro hmul hmul2)
     clear hmul hmul2
     go_wp2_with (refine Cs rfl FG (by simp[Value.cells,Value.oneCell']) (.tmp 38) rfl (g:=gr) (off:=f*3) (n:=xs.length - f) rfl HG.out (by rw[HCL.out,HML.out.1];exact HML.out.2) ?_;intro zs w7 hzs h7 hg7;have HZ:=Aa hzs;have H7:=Aa h7;have HG7:=Aa hg7;clear hzs h7 hg7)
     rw[HR.out]
     have hfil:(xs.take xs.length).filter (fun v=>!del v)=xs.filter fun v=>!del v:=by rw[List.take_length]
     have hF:=HF.out
     have hD:=HD.out.front
     rw[hfil] at hF hD
     have hlen:∀ y∈xs.filter (fun v=>!del v),y.length=3:=fun y hy=>HO.out.len y (List.mem_filter.1 hy).1
     have hfs:(f*3)≤cr.length:=by rw[HCL.out];exact Nat.mul_le_mul_right _ hfc3
     have htk:=hD.take hlen (by rw[hF];exact hfs)
     rw[hF] at htk
     refine⟨_,rfl,⟨⟨?_,.inr ⟨gr,cap,(cr.take (f*3)++zs++cr.drop (f*3+(xs.length - f)*3)).toArray,?_,Nat.zero_le _,H7.out,?_,HCM.out,?_,?_⟩⟩,fun k hk=>?_,hlen⟩,rfl,HI.out _ wr w7 HIj.out (Fp.of_grown HG7.out rfl)⟩
     ·rw[AJ hlen]
     ·rw[hF]
     ·rw[hF];exact hfc3
     ·have h1:=HCL.out
      have h2:=HML.out
      simp only[List.size_toArray,List.length_append,List.length_take,List.length_drop,HZ.out,HCL.out]
      omega
     ·rw[hF,List.append_assoc,List.take_append_of_le_length (by rw[List.length_take];omega),List.take_take,Nat.min_self]
      exact htk
     ·simp only[Value.ownBlock,Option.some.injEq] at hk
      rw[← hk];exact HM.out
 ·rw[if_neg (by omega)] at HI2 ⊢
  have HXS:=Aa (Gp (del:=del) (xs:=xs) (by rw[← HIE.out];omega))
  go_wp2_with fail
  rw[HR.out]
  exact⟨v,rfl,by rw[HXS.out];exact hO.kt HT2.out,rfl,HI2.out⟩
theorem Gr.fpRow_per {row:Option Nat} {w w':World} (h:Gr row w w'):Fp (fun k=>row=some k) w w':=⟨h.out.os,h.out.tape,h.out.output,h.out.size,fun k hk hs=>h.out.block k hk (fun e=>hs e.symm)⟩
def GI (M:Nat→Prop) (w:World) (v:Value) (xs:List (List Value)) (i:Nat) (x:List Value) (e:Ending) (w':World):Prop :=
 ∃ v',e=.returned v'∧AA (Gn M w) w' 94 3 v' (AV xs i x)∧Fp (fun k=>v.ownBlock=some k) w w'
theorem ins_per {M:Nat→Prop} {w:World} {v:Value} {xs:List (List Value)} (hO:AA M w 94 3 v xs) (hn:xs.length≤1000) (i:Nat) (hi:i≤xs.length) (x:List Value) (hx:x.length=3) (h1x:∀ u∈x,u.oneCell'=true) (h1:∀ y∈xs,∀ u∈y,u.oneCell'=true)
  (gv:Nat) (hgv:w.heap[gv]?=some (.cells x.toArray 94 (0,0))) (hne:v.ownBlock≠some gv) :
  Calls Tryz.prog 197 #[v,.int .i64 i,.slice (some ⟨gv,0,none⟩) 1 1] w (GI M w v xs i x):=by
 have HO:=Aa hO
 have HX:=Aa hx
 have H1X:=Aa h1x
 have H1:=Aa h1
 have HGV:=Aa hgv
 have HNE:=Aa hne
 obtain⟨R,hR⟩:∃ R,R=GI M w v xs i x:=⟨_,rfl⟩
 rw[← hR]
 have HR:=Aa hR
 clear hR hO hx h1x h1 hgv hne
 rcases Nat.lt_or_ge i xs.length with hlt | hge
 ·-- in the middle
  have e0:=List.getElem?_eq_getElem (show 0<xs.length by omega)
  rcases HO.out.val with ⟨_,e⟩ | ⟨g,cap,cur,hv,hM,hg,hc,hm,hs,hr⟩
  ·subst e;simp at hlt
  subst hv
  have hA:=Dh HO.out.len (Nat.le_of_lt hlt)
  have hD:=Dg HO.out.len i
  have hcl0:cur.toList.length=cap*3:=by simpa using hs
  have htk:=hr.take HO.out.len (by rw[hcl0];exact Nat.mul_le_mul_right _ hc)
  have hxsf:xs.flatten=(xs.take i).flatten++(xs.drop i).flatten:=by rw[← List.flatten_append,List.take_append_drop]
  have hcur:cur.toList=(xs.take i).flatten++(xs.drop i).flatten++cur.toList.drop (xs.length*3):=by
   rw[← hxsf,← htk,List.take_append_drop]
  have hRl:(cur.toList.drop (xs.length*3)).length=(cap - xs.length)*3:=by rw[List.length_drop,hcl0,Nat.sub_mul]
  have h1D:∀ u∈(xs.drop i).flatten,u.oneCell'=true:=Bf fun y hy=>H1.out y (List.mem_of_mem_drop hy)
  have hgl:w.heap[g]?=some (.cells cur.toList.toArray 94 (0,0)):=by rw[Array.toArray_toList];exact hg
  have hsrc:∀ (W:World) (cl:List Value),W.heap[g]?=some (.cells cl.toArray 94 (0,0))→cl.take (xs.length*3)=xs.flatten→W.rangeAt g (i*3) (xs.drop i).flatten:=fun W cl hW hcl j u hj=>by
   have hjl:=(List.getElem?_eq_some_iff.1 hj).1
   rw[hD] at hjl
   have h5:(xs.length - i)*3=xs.length*3 - i*3:=Nat.sub_mul ..
   have h6:i*3+j<xs.length*3:=by omega
   rw[Ae hW,List.getElem?_toArray]
   have h7:(cl.take (xs.length*3))[i*3+j]?=cl[i*3+j]?:=by rw[List.getElem?_take,if_pos h6]
   rw[← h7,hcl,hxsf,← hA,List.getElem?_append_right (by omega),Nat.add_sub_cancel_left]
   exact hj
  have hgg:g≠gv:=fun e=>HNE.out (by rw[← e];rfl)
  have iI:¬ (i:Int)=(xs.length:Int):=by omega
  have iz:((i:Int)==(xs.length:Int))=false:=by rw[beq_eq_false_iff_ne];exact iI
  have q1:IntKind.i64.wrap ((xs.length:Int)+1)=((xs.length+1:Nat):Int):=by rw[IntWalk.i64_in _ (by omega)];simp
  have q2:IntKind.i64.wrap (((xs.length+1:Nat):Int) - (i:Int))=((xs.length+1 - i:Nat):Int):=by rw[IntWalk.i64_in _ (by omega)];omega
  have q3:IntKind.i64.wrap ((i:Int)+1)=((i+1:Nat):Int):=by rw[IntWalk.i64_in _ (by omega)];simp
  have s1:(i:Int)≤(xs.length:Int):=by omega
  have s2:i<cap:=by omega
  have s3:¬ cap=i:=by omega
  have HAL:=Aa hA
  have HDL:=Aa hD
  have HTK:=Aa htk
  have HCU:=Aa hcur
  have HRL:=Aa hRl
  have H1D:=Aa h1D
  have HG:=Aa hgl
  have HSR:=Aa hsrc
  have HGG:=Aa hgg
  have HM:=Aa hM
  have HCM:=Aa hm
  have HCS:=Aa hcl0
  clear hcl0
  have HXF:=Aa hxsf
  clear hA hD htk hcur hRl h1D hgl hsrc hgg hM hm hs hr hg hxsf e0
  rcases Nat.lt_or_ge cap (xs.length+1) with hfull | hroom
  ·obtain rfl:cap=xs.length:=by omega
   have hfI:(xs.length:Int)<((xs.length+1:Nat):Int):=by omega
   go_enter Tryz.func197,Tryz.ntmps197
   have HK:=Aa (show ((xs.length:Int)+1 - (i:Int))=((xs.length+1 - i:Nat):Int) by omega)
   have HRA:=Aa (show w.rangeAt g 0 (xs.take i).flatten from fun j u hj=>by
    have hjl:=(List.getElem?_eq_some_iff.1 hj).1
    rw[Ae HG.out,List.getElem?_toArray,Nat.zero_add,HCU.out,List.append_assoc,List.getElem?_append_left hjl]
    exact hj)
   go_upto_region 10 with (refine Fb rfl FG Tryz.underlying3 (.tmp 34) (.tmp 39) rfl (g:=g) (n:=i) (cap:=xs.length) (k:=xs.length+1 - i) (m:=xs.length+1) rfl (show Value.int .i64 _=Value.int .i64 _ by rw[HK.out]) HRA.out HAL.out (by omega) (by omega) (by omega) (by omega) (by omega) ?_;intro w3 c3 z3 h3 hz3 hc3 hm3 hl3;have H3:=Aa h3;have HZ3:=Aa hz3;have HL3:=Aa hl3;have HM3:=Aa hm3;clear h3 hz3 hl3 hm3)
   have HGN:=Aa (Ah HG.out)
   have HVN:=Aa (Ah HGV.out)
   generalize hgn:w.heap.size=gn at *
   have HSN:=Aa hgn
   clear hgn
   have t1:(i:Int)≤(xs.length:Int)+1:=by omega
   have t2:i<c3:=by omega
   have t3:¬ c3=i:=by omega
   have hz3l:z3.length=(c3 - i)*3:=HZ3.out
   have hle3:3+(xs.length - i)*3≤z3.length:=by rw[hz3l];have:=Nat.mul_le_mul_right 3 (show xs.length - i+1≤c3 - i by omega);rw[Nat.succ_mul] at this;omega
   have HLE3:=Aa hle3
   clear hz3l hle3
   have HC0:=Aa (show ((xs.take i).flatten++z3).length=i*3+z3.length by rw[List.length_append,HAL.out])
   go_upto_region 11 with (refine Be rfl (.tmp 43) (.tmp 44) 58 58 rfl Tryz.underlying58 (size:=3) (by kernel_rfl) (g:=gn) (off:=i*3) (b:=gv) (o2:=0) rfl rfl H3.out (cs:=x) (n:=1) ?_ ?_ ?_ ?_ H1X.out ?_;(focus (show 1=min 1 _;omega));(focus (have:=HX.out;omega));(focus (intro j u hj;rw[Nat.zero_add];refine HL3.out.cell ?_;rw[Ae HGV.out];simpa using hj));(focus (rw[HC0.out,HX.out];have:=HLE3.out;omega));intro w4 h4 hg4;have H4:=Aa h4;have HG4:=Aa hg4;clear h4 hg4)
   have HG5:=Aa ((Le.refl w4).drew.heap (Ai HG4.out (HL3.out.heap HG.out) (by intro e;injection e with e;have:=HGN.out;omega)))
   have H5:=Aa ((Le.refl w4).drew.heap H4.out)
   have t4:(i:Int)+1≤(xs.length:Int)+1:=by omega
   have t5:i+1<c3:=by omega
   have t6:¬ c3=i+1:=by omega
   refine' Aj 8 8 46 Le (Is _::Is _::Is _::Is _::Is _::Is _::Is _::Is _::[]) ([]::[]::[]::[1,2]::[0,3]::[]::[]::[5,6]::[]) (by kernel_rfl) (by kernel_rfl) (by rfl) (by kernel_rfl) (by kernel_rfl) Le.refl (fun _ _ _ h h'=>h.trans h') ⟨St.is,St.is,St.is,St.is,St.is,St.is,St.is,St.is,trivial⟩ ?m11
   case m11 =>
    simp (maxSteps:=100000000) only [AR,Bv,AK,AC,An,AD,Am,Au,List.set_cons_succ,List.set_cons_zero,List.getElem?_cons_zero,List.getElem?_cons_succ,List.take_succ_cons,List.take_zero,List.drop_succ_cons,List.drop_zero,List.cons_append,List.nil_append,List.length_cons,List.length_nil,Nat.reduceAdd]
    intro x0 x1 x2 x3 x4 x5 x6 x7
    refine⟨⟨?_,?_,?_,?_,?_,?_,?_,?_,trivial⟩,?_⟩
    ·intro wo hw KQ hK;go_simp;exact hK _ _ .r .m
    ·intro wo hw KQ hK;go_simp;exact hK _ _ .r .m
    ·intro wo hw KQ hK;go_simp;exact hK _ _ .r .m
    ·intro wo hw h1 h2 KQ hK;cases h1;cases h2;go_simp;exact hK _ _ .r .m
    ·intro wo hw h0 h3 KQ hK;cases h0;cases h3;go_simp;exact hK _ _ .r .m
    ·intro wo hw KQ hK;go_simp;exact hK _ _ .r .m
    ·intro wo hw KQ hK;go_simp;exact hK _ _ .r .m
    ·intro wo hw h5 h6 KQ hK;cases h5;cases h6;go_simp;exact hK _ _ .r .m
    ·intro wz hz h0 h1 h2 h3 h4 h5 h6 h7;cases h0;cases h1;cases h2;cases h3;cases h4;cases h5;cases h6;cases h7;skip
     have HZG:=Aa (hz.heap HG5.out)
     have HZN:=Aa (hz.heap H5.out)
     have HLZ:=Aa ((Le.refl w4).drew.trans hz)
     have HC1:=Aa (show (((xs.take i).flatten++z3).take (i*3)++x++((xs.take i).flatten++z3).drop (i*3+x.length)).length=i*3+z3.length by
      have h1:=HLE3.out
      have h2:=HX.out
      simp only[List.length_append,List.length_take,List.length_drop,HAL.out]
      omega)
     clear HG5 H5 hz
     go_wp2_with (refine Be rfl (.tmp 50) (.tmp 53) 58 58 rfl Tryz.underlying58 (size:=3) (by kernel_rfl) (g:=gn) (off:=(i+1)*3) (b:=g) (o2:=i*3) rfl rfl HZN.out (cs:=(xs.drop i).flatten) (n:=xs.length - i) ?_ HDL.out ?_ ?_ H1D.out ?_;(focus (show xs.length - i=min _ _;omega));(focus (exact HSR.out wz cur.toList HZG.out HTK.out));(focus (rw[HC1.out,HDL.out];have:=HLE3.out;omega));intro w6 h6 hg6;have H6:=Aa h6;have HG6:=Aa hg6;clear h6 hg6)
     rw[HR.out]
     obtain⟨R',hrow,hRl⟩:=Ee (cur:=(xs.take i).flatten++z3) rfl HAL.out HDL.out HX.out (Nat.le_of_lt hlt) HLE3.out
     have h6:=H6.out
     rw[hrow,← CE] at h6
     have hil:=DC HO.out.len HX.out (i:=i)
     have hfl:=AJ hil
     have hin:(AV xs i x).length=xs.length+1:=BH ..
     rw[hin] at hfl
     have hz9:=HZ3.out
     have hmul:(c3 - i)*3=3+(xs.length - i)*3+(c3 - (xs.length+1))*3:=by
      have:c3 - i=1+(xs.length - i)+(c3 - (xs.length+1)):=by omega
      rw[this,Nat.add_mul,Nat.add_mul,Nat.one_mul]
     have hmul2:c3*3=(xs.length+1)*3+(c3 - (xs.length+1))*3:=by rw[← Nat.add_mul];congr 1;omega
     have hgf:Fp (fun k=>(Value.slice (some ⟨g,0,none⟩) xs.length xs.length).ownBlock=some k) w w6 :=
      (((Fp.of_le HL3.out).fresh HG4.out (Nat.le_of_eq HSN.out)).trans (Fp.of_le HLZ.out)).fresh HG6.out (Nat.le_of_eq HSN.out)
     refine⟨.slice (some ⟨gn,0,none⟩) (xs.length+1) c3,rfl,⟨⟨?_,.inr ⟨gn,c3,((AV xs i x).flatten++R').toArray,?_,Nat.zero_le _,h6,?_,HM3.out,?_,?_⟩⟩,fun k hk=>?_,hil⟩,hgf⟩
     ·rw[hin];exact hfl
     ·rw[hin]
     ·rw[hin];exact hc3
     ·rw[List.size_toArray,List.length_append,hfl]
      rw[HDL.out] at hRl
      omega
     ·rw[hin,← hfl,List.take_left']
      rfl
     ·simp only[Value.ownBlock,Option.some.injEq] at hk
      exact .inr (by rw[← hk];exact Nat.le_of_eq HSN.out)
  ·have hfI:¬ (cap:Int)<((xs.length+1:Nat):Int):=by omega
   go_enter Tryz.func197,Tryz.ntmps197
   have HSH:=Aa (show w.shape? gv=some (94,x.length) by simp[World.shape?,HGV.out])
   have HSG:=Aa (show w.shape? g=some (94,cur.toList.length) by simp[World.shape?,HG.out])
   have hov:∀ lb cb,(callFunc 227 #[.slice (some ⟨gv,0,none⟩) 1 1,.slice (some ⟨g,(i+1)*3,none⟩) lb cb]).run Tryz.prog w=.ok (.value (.bool false)) w:=fun lb cb=>by
    rw[run_callFunc_extern Tryz.func227 (by kernel_rfl) (by kernel_rfl) (by kernel_rfl) (e:=Extern.SlicesOverlaps.overlaps #[58,58] #[4]) (by kernel_rfl),Lib.run_overlaps_apart w 58 4 94 Tryz.underlying58 3 (fun w=>by kernel_rfl) ⟨gv,0,none⟩ ⟨g,(i+1)*3,none⟩ 1 1 lb cb (fun e=>HGG.out e.symm) 94 94 _ _ HSH.out HSG.out (by rw[HCS.out];have:=Nat.mul_le_mul_right 3 (show 1≤cap by omega);omega) (Ay HGV.out 0) (Ay HGV.out _)]
    rfl
   have t1:(xs.length:Int)+1≤(cap:Int):=by omega
   have t7:(i:Int)≤(xs.length:Int)+1:=by omega
   have t4:(i:Int)+1≤(xs.length:Int)+1:=by omega
   have t5:i+1<cap:=by omega
   have t6:¬ cap=i+1:=by omega
   go_upto_region 15 with fail
   clear hov
   have HGD:=Aa ((Le.refl w).drew.heap HG.out)
   refine' Aj 8 8 69 Le (Is _::Is _::Is _::Is _::Is _::Is _::Is _::Is _::[]) ([]::[]::[]::[1,2]::[0,3]::[]::[]::[5,6]::[]) (by kernel_rfl) (by kernel_rfl) (by rfl) (by kernel_rfl) (by kernel_rfl) Le.refl (fun _ _ _ h h'=>h.trans h') ⟨St.is,St.is,St.is,St.is,St.is,St.is,St.is,St.is,trivial⟩ ?m15
   case m15 =>
    simp (maxSteps:=100000000) only [AR,Bv,AK,AC,An,AD,Am,Au,List.set_cons_succ,List.set_cons_zero,List.getElem?_cons_zero,List.getElem?_cons_succ,List.take_succ_cons,List.take_zero,List.drop_succ_cons,List.drop_zero,List.cons_append,List.nil_append,List.length_cons,List.length_nil,Nat.reduceAdd]
    intro x0 x1 x2 x3 x4 x5 x6 x7
    refine⟨⟨?_,?_,?_,?_,?_,?_,?_,?_,trivial⟩,?_⟩
    ·intro wo hw KQ hK;go_simp;exact hK _ _ .r .m
    ·intro wo hw KQ hK;go_simp;exact hK _ _ .r .m
    ·intro wo hw KQ hK;go_simp;exact hK _ _ .r .m
    ·intro wo hw h1 h2 KQ hK;cases h1;cases h2;go_simp;exact hK _ _ .r .m
    ·intro wo hw h0 h3 KQ hK;cases h0;cases h3;go_simp;exact hK _ _ .r .m
    ·intro wo hw KQ hK;go_simp;exact hK _ _ .r .m
    ·intro wo hw KQ hK;go_simp;exact hK _ _ .r .m
    ·intro wo hw h5 h6 KQ hK;cases h5;cases h6;go_simp;exact hK _ _ .r .m
    ·intro wz hz h0 h1 h2 h3 h4 h5 h6 h7;cases h0;cases h1;cases h2;cases h3;cases h4;cases h5;cases h6;cases h7;skip
     have HZG:=Aa (hz.heap HGD.out)
     have HLZ:=Aa ((Le.refl w).drew.trans hz)
     clear hz
     go_upto_region 16 with (refine Be rfl (.tmp 73) (.tmp 76) 58 58 rfl Tryz.underlying58 (size:=3) (by kernel_rfl) (g:=g) (off:=(i+1)*3) (b:=g) (o2:=i*3) rfl rfl HZG.out (cs:=(xs.drop i).flatten) (n:=xs.length - i) ?_ HDL.out ?_ ?_ H1D.out ?_;(focus (show xs.length - i=min _ _;omega));(focus (exact HSR.out wz cur.toList HZG.out HTK.out));(focus (rw[HCS.out,HDL.out];have:=Nat.mul_le_mul_right 3 (show xs.length+1≤cap by omega);have h2:(xs.length - i)*3=xs.length*3 - i*3:=Nat.sub_mul ..;have h3:=Nat.mul_le_mul_right 3 (Nat.le_of_lt hlt);rw[Nat.succ_mul] at this ⊢;omega));intro w5 h5 hg5;have H5:=Aa h5;have HG5:=Aa hg5;clear h5 hg5)
     have hRl3:3≤(cur.toList.drop (xs.length*3)).length:=by rw[HRL.out];have:=Nat.mul_le_mul_right 3 (show 1≤cap - xs.length by omega);omega
     obtain⟨R',hrow,hRl⟩:=Eo (cur:=cur.toList) HCU.out HAL.out HDL.out HX.out (Nat.le_of_lt hlt) hRl3
     have HROW:=Aa hrow
     have HRL2:=Aa hRl
     have HLC:=Aa (show (cur.toList.take ((i+1)*3)++(xs.drop i).flatten++cur.toList.drop ((i+1)*3+(xs.drop i).flatten.length)).length=cap*3 by
      have h1:=HCS.out
      have h2:=HDL.out
      have h3:(xs.length - i)*3=xs.length*3 - i*3:=Nat.sub_mul ..
      have h4:=Nat.mul_le_mul_right 3 (Nat.le_of_lt hlt)
      have h5:=Nat.mul_le_mul_right 3 (show xs.length+1≤cap by omega)
      rw[Nat.succ_mul] at h5
      have h6:(i+1)*3=i*3+3:=Nat.succ_mul ..
      simp only[List.length_append,List.length_take,List.length_drop]
      omega)
     clear hrow hRl hRl3
     go_wp2_with (refine Be rfl (.tmp 80) (.tmp 81) 58 58 rfl Tryz.underlying58 (size:=3) (by kernel_rfl) (g:=g) (off:=i*3) (b:=gv) (o2:=0) rfl rfl H5.out (cs:=x) (n:=1) ?_ ?_ ?_ ?_ H1X.out ?_;(focus (show 1=min 1 _;omega));(focus (have:=HX.out;omega));(focus (intro j u hj;rw[Nat.zero_add];have h9:=Ai HG5.out (HLZ.out.heap HGV.out) (by intro e;injection e with e;exact HGG.out e);rw[Ae h9];simpa using hj));(focus (rw[HLC.out,HX.out];have h5:=Nat.mul_le_mul_right 3 (show i+1≤cap by omega);rw[Nat.succ_mul] at h5;omega));intro w6 h6 hg6;have H6:=Aa h6;have HG6:=Aa hg6;clear h6 hg6)
     rw[HR.out]
     have h6:=H6.out
     rw[HROW.out,← CE] at h6
     have hil:=DC HO.out.len HX.out (i:=i)
     have hfl:=AJ hil
     have hin:(AV xs i x).length=xs.length+1:=BH ..
     rw[hin] at hfl
     refine⟨.slice (some ⟨g,0,none⟩) (xs.length+1) cap,rfl,⟨⟨?_,.inr ⟨g,cap,((AV xs i x).flatten++R').toArray,?_,Nat.zero_le _,h6,?_,HCM.out,?_,?_⟩⟩,fun k hk=>?_,hil⟩,(Fp.of_le HLZ.out).trans ((Fp.of_grown (S:=fun k=>(Value.slice (some ⟨g,0,none⟩) xs.length cap).ownBlock=some k) HG5.out rfl).trans (Fp.of_grown HG6.out rfl))⟩
     ·rw[hin];exact hfl
     ·rw[hin]
     ·rw[hin];omega
     ·have h7:=HRL2.out
      have h8:=HRL.out
      have h9:(cap - xs.length)*3=cap*3 - xs.length*3:=Nat.sub_mul ..
      have h10:=Nat.mul_le_mul_right 3 (show xs.length≤cap by omega)
      rw[List.size_toArray,List.length_append,hfl,Nat.succ_mul]
      omega
     ·rw[hin,← hfl,List.take_left']
      rfl
     ·simp only[Value.ownBlock,Option.some.injEq] at hk
      exact .inl (by rw[← hk];exact HM.out)
 ·obtain rfl:i=xs.length:=by omega
  have iz:((xs.length:Int)==(xs.length:Int))=true:=by simp
  have HIN:=Aa (show AV xs xs.length x=xs++[x] by rw[AV,List.take_length,List.drop_length])
  obtain⟨A,cap,hv,_,hnil,hcap⟩:=HO.out.cells
  subst hv
  have HB:=Aa (show BsF (Value.slice A xs.length cap).ownBlock x 94 (.slice (some ⟨gv,0,none⟩) 1 1) w from ⟨gv,rfl,HNE.out,HGV.out⟩)
  cases A with
  | none =>
   obtain⟨hx0,hc0⟩:=hnil rfl
   subst hx0 hc0
   go_enter Tryz.func197,Tryz.ntmps197
   go_wp2_with (refine Br rfl FG (.tmp 23) (.tmp 24) rfl HO.out (Le.refl w) rfl rfl HB.out HX.out H1X.out (by first | omega | simp) (by omega) ?_;intro v' w4 h4 h5;have H4:=Aa h4;clear h4 h5)
   rw[HR.out]
   exact⟨v',rfl,by rw[HIN.out];exact H4.out.ownR HO.out HX.out,Gr.fpRow_per H4.out.gr⟩
  | some A =>
   clear hnil
   have s1:(xs.length:Int)≤(xs.length:Int):=by omega
   rcases Nat.lt_or_ge xs.length cap with hc | hc
   ·have s2:¬ cap=xs.length:=by omega
    go_enter Tryz.func197,Tryz.ntmps197
    go_wp2_with (refine Br rfl FG (.tmp 23) (.tmp 24) rfl HO.out (Le.refl w) rfl rfl HB.out HX.out H1X.out (by first | omega | simp) (by omega) ?_;intro v' w4 h4 h5;have H4:=Aa h4;clear h4 h5)
    rw[HR.out]
    exact⟨v',rfl,by rw[HIN.out];exact H4.out.ownR HO.out HX.out,Gr.fpRow_per H4.out.gr⟩
   ·obtain rfl:cap=xs.length:=by omega
    go_enter Tryz.func197,Tryz.ntmps197
    go_wp2_with (refine Br rfl FG (.tmp 23) (.tmp 24) rfl HO.out (Le.refl w) rfl rfl HB.out HX.out H1X.out (by first | omega | simp) (by omega) ?_;intro v' w4 h4 h5;have H4:=Aa h4;clear h4 h5)
    rw[HR.out]
    exact⟨v',rfl,by rw[HIN.out];exact H4.out.ownR HO.out HX.out,Gr.fpRow_per H4.out.gr⟩
structure Io (M:Nat→Prop) (W0:World) (T s:Nat) (row:Option Nat) (ys:List (List Value)) (v:Value) (W:World):Prop where
 own:AA (Gn M W0) W T s v ys
 gr:Gr row W0 W
theorem Io.le {M:Nat→Prop} {W0 w w':World} {T s:Nat} {row:Option Nat} {ys:List (List Value)} {v:Value} (h:Io M W0 T s row ys v w) (hl:Le w w'):Io M W0 T s row ys v w':=⟨h.own.le hl,h.gr.trans (Gr.of_le hl)⟩
theorem Gr.of_fp {row:Option Nat} {w w':World} (h:Fp (fun k=>row=some k) w w'):Gr row w w':=⟨⟨h.os,h.tape,h.output,h.size,fun k hk hne=>h.block k hk (fun e=>hne e.symm)⟩⟩
theorem Fp.of_gr {row:Option Nat} {w w':World} (h:Gr row w w'):Fp (fun k=>row=some k) w w':=⟨h.out.os,h.out.tape,h.out.output,h.out.size,fun k hk hs=>h.out.block k hk (fun e=>hs e.symm)⟩
theorem C8 {α β:Type} (f:α→β) (l:List α) (i:Nat) (x:α):(AV l i x).map f=AV (l.map f) i (f x):=by
 simp[AV,List.map_take,List.map_drop]
section
variable {M M':Nat→Prop} {w w' w'':World} {a:Nat} {s:DS} {pv tv sv:Value} {ts:List (Trk×Value)}
theorem join_any (h:DtB M w a s pv tv sv ts) (ok:s.Ok) (fw:s.Few) (q:Rq) (qs:Value) (hq1:qs.oneCell'=true):Calls Tryz.prog 162 #[.pointer (some ⟨a,0,none⟩),rqV q qs] w (DoP M w a (s.join q)):=by
 obtain⟨l1,l2,l3⟩:=lens ok fw
 have HL:=Aa ((Le.refl w).alloc (.cells #[.int .i64 q.kind,.int .i64 q.who,.int .i64 q.room,.int .i64 q.rights,.int .i64 q.track,qs,.int .i64 q.layer,.int .i64 q.tid] 31))
 have HX:=Aa (heap_alloc_new w (.cells #[.int .i64 q.kind,.int .i64 q.who,.int .i64 q.room,.int .i64 q.rights,.int .i64 q.track,qs,.int .i64 q.layer,.int .i64 q.tid] 31))
 have H:=Aa (h.le HL.out)
 have H0:=Aa h
 obtain⟨R,hR⟩:∃ R,R=DoP M w a (s.join q):=⟨_,rfl⟩
 rw[← hR]
 have HR:=Aa hR
 clear hR h
 show Calls Tryz.prog 162 #[.pointer (some ⟨a,0,none⟩),.agg #[.int .i64 q.kind,.int .i64 q.who,.int .i64 q.room,.int .i64 q.rights,.int .i64 q.track,qs,.int .i64 q.layer,.int .i64 q.tid]] w R
 go_enter Tryz.func162,Tryz.ntmps162
 go_upto_region 1 with fail
 generalize w.alloc (.cells #[.int .i64 q.kind,.int .i64 q.who,.int .i64 q.room,.int .i64 q.rights,.int .i64 q.track,qs,.int .i64 q.layer,.int .i64 q.tid] 31)=w1 at *
 generalize w.heap.size=gx at *
 have HD:=Aa (H.out.le (Le.refl w1).drew)
 have HXD:=Aa ((Le.refl w1).drew.heap HX.out)
 refine' Aj 10 6 8 Le (Is _::Is _::Is _::Is _::Is _::Is _::Is _::Is _::Is _::Is _::[]) ([]::[0]::[1]::[]::[3]::[2,4]::[5]::[6]::[6]::[7]::[]) (by kernel_rfl) (by kernel_rfl) (by rfl) (by kernel_rfl) (by kernel_rfl) Le.refl (fun _ _ _ h h'=>h.trans h') ⟨St.is,St.is,St.is,St.is,St.is,St.is,St.is,St.is,St.is,St.is,trivial⟩ ?m1
 case m1 =>
  simp (maxSteps:=100000000) only [AR,Bv,AK,AC,An,AD,Am,Au,Act.put,List.setIfInBounds_toArray,List.set_cons_succ,List.set_cons_zero,List.getElem?_cons_zero,List.getElem?_cons_succ,List.take_succ_cons,List.take_zero,List.drop_succ_cons,List.drop_zero,List.cons_append,List.nil_append,List.length_cons,List.length_nil,Nat.reduceAdd]
  intro x0 x1 x2 x3 x4 x5 x6 x7 x8 x9
  refine⟨⟨?_,?_,?_,?_,?_,?_,?_,?_,?_,?_,trivial⟩,?_⟩
  ·intro wo hw KQ hK;go_simp;exact hK _ _ .r .m
  ·intro wo hw h0 KQ hK;cases h0;go_simp;exact hK _ _ .r .m
  ·intro wo hw h1 KQ hK;cases h1;refine cast (if_pos (show Region.wanted _ _=true from rfl)).symm ?_;have hz:=(hw.heap HD.out.ha);refine Av 62 (.tmp 9) rfl (cs:=[.int .i64 s.mp,.int .i64 s.mt,.int .i64 s.ms,.int .i64 s.ml,pv,tv,sv]) _ rfl Tryz.underlying62 rfl (by kernel_rfl) hz ?_;exact hK _ _ .r .m
  ·intro wo hw KQ hK;go_simp;exact hK _ _ .r .m
  ·intro wo hw h3 KQ hK;cases h3;have kk:=Af (hw.heap HXD.out) 1 (.int .i64 q.who) rfl wo (Le.refl _);go_simp;exact hK _ _ .r .m
  ·intro wo hw h2 h4 KQ hK;cases h2;cases h4;go_simp;refine (Cd (HD.out.D.le hw) ok fw _).mono ?_;rintro e w' ⟨rfl,hb⟩;exact hK _ _ (Le.mk hb) (Is.mk _ _)
  ·intro wo hw h5 KQ hK;cases h5;go_simp;exact hK _ _ .r .m
  ·intro wo hw h6 KQ hK;cases h6;go_simp;exact hK _ _ .r .m
  ·intro wo hw h6 KQ hK;cases h6;go_simp;exact hK _ _ .r .m
  ·intro wo hw h7 KQ hK;cases h7;go_simp;exact hK _ _ .r .m
  ·intro wz hz h0 h1 h2 h3 h4 h5 h6 h7 h8 h9;cases h0;cases h1;cases h2;cases h3;cases h4;cases h5;cases h6;cases h7;cases h8;cases h9;skip
   have HLZ:=Aa ((HL.out.trans (Le.refl w1).drew).trans hz)
   have HXZ:=Aa (hz.heap HXD.out)
   clear HD HXD HX H HL hz
   have y1:wz.cell? ⟨gx,1,none⟩=some (.int .i64 q.who):=Ae HXZ.out 1
   go_wp2_with fail
   refine (Cn q.who 1 999 wz).mono ?_
   rintro e w2 ⟨rfl,hb⟩
   have HL2:=Aa (HLZ.out.trans (Le.mk hb))
   have HX2:=Aa ((Le.mk hb).heap HXZ.out)
   clear hb HLZ HXZ y1
   cases hb1:inB q.who 1 999
   ·have HE:=Aa (show s.join q=(s,1) by rw[DS.join,hb1];rfl)
    clear hb1
    go_wp2_with fail
    rw[HR.out,HE.out]
    exact DoP.same H0.out HL2.out rfl
   have HB1:=Aa hb1
   clear hb1
   have y2:w2.cell? ⟨gx,2,none⟩=some (.int .i64 q.room):=Ae HX2.out 2
   go_wp2_with fail
   refine (Cn q.room 1 9 w2).mono ?_
   rintro e w3 ⟨rfl,hb⟩
   have HL3:=Aa (HL2.out.trans (Le.mk hb))
   have HX3:=Aa ((Le.mk hb).heap HX2.out)
   clear hb HL2 HX2 y2
   cases hb2:inB q.room 1 9
   ·have HE:=Aa (show s.join q=(s,1) by rw[DS.join,HB1.out,hb2];rfl)
    clear hb2
    go_wp2_with fail
    rw[HR.out,HE.out]
    exact DoP.same H0.out HL3.out rfl
   have HB2:=Aa hb2
   clear hb2
   have y3:w3.cell? ⟨gx,3,none⟩=some (.int .i64 q.rights):=Ae HX3.out 3
   go_wp2_with fail
   refine (Cn q.rights 0 3 w3).mono ?_
   rintro e w4 ⟨rfl,hb⟩
   have HL4:=Aa (HL3.out.trans (Le.mk hb))
   have HX4:=Aa ((Le.mk hb).heap HX3.out)
   clear hb HL3 HX3 y3
   cases hb3:inB q.rights 0 3
   ·have HE:=Aa (show s.join q=(s,1) by rw[DS.join,HB1.out,HB2.out,hb3];rfl)
    clear hb3
    go_wp2_with fail
    rw[HR.out,HE.out]
    exact DoP.same H0.out HL4.out rfl
   have HB3:=Aa hb3
   clear hb3
   cases hh:s.hasP q.who
   ·have HH:=Aa hh
    clear hh
    obtain⟨Ap,cp,hpv,_,_,_⟩:=H0.out.D.hP.cells
    rw[List.length_map] at hpv
    subst hpv
    have HZ:=Aa (H0.out.le HL4.out)
    have z4:w4.cell? ⟨a,4,none⟩=some (.slice Ap s.people.length cp):=Ae HZ.out.ha 4
    have z0:w4.cell? ⟨a,0,none⟩=some (.int .i64 s.mp):=Ae HZ.out.ha 0
    go_upto_region 6 with fail
    by_cases hm:s.mp≤(s.people.length:Int)
    ·have HE:=Aa (show s.join q=(s,20) by rw[DS.join,HB1.out,HB2.out,HB3.out,HH.out,if_neg (by simp),if_neg (by simp),if_pos hm])
     go_quiet (fail)
     go_wp2_with fail
     rw[HR.out,HE.out]
     exact DoP.same H0.out (HL4.out.drewN _) rfl
    ·have HE:=Aa (show s.join q=(s.setPeople (AV s.people (s.pAt q.who) ⟨q.who,q.room,q.rights⟩),0) by rw[DS.join,HB1.out,HB2.out,HB3.out,HH.out,if_neg (by simp),if_neg (by simp),if_neg hm])
     go_quiet (fail)
     have HLq:=Aa (HL4.out.drewN nq)
     have HXq:=Aa (((Le.refl w4).drewN nq).heap HX4.out)
     clear z4 z0 HZ hm HL4 HX4
     generalize w4.drewN nq=wz8 at *
     go_upto_region 8 with fail
     have HD8:=Aa (H0.out.le (HLq.out.trans (Le.refl wz8).drew))
     have HX8:=Aa ((Le.refl wz8).drew.heap HXq.out)
     refine' AB 14 17 17 47 Le (Gr (Value.slice Ap s.people.length cp).ownBlock) (IsD _::IsD _::IsD _::IsD _::IsD _::IsD _::IsD _::IsD _::IsD _::IsD _::IsD _::IsD _::IsD _::(fun _ v W=>BsF (Value.slice Ap s.people.length cp).ownBlock (Ds ⟨q.who,q.room,q.rights⟩) 94 v W)::(fun _ v W=>Io M wz8.drew 94 3 (Value.slice Ap s.people.length cp).ownBlock (AV (s.people.map Ds) (s.pAt q.who) (Ds ⟨q.who,q.room,q.rights⟩)) v W)::IsD _::IsD _::[]) ([]::[]::[1]::[2]::[3]::[]::[]::[6]::[]::[8]::[]::[10]::[7,9,11]::[12]::[4,5,13]::[0]::[15]::[]) (by kernel_rfl) (by kernel_rfl) (by rfl) (by kernel_rfl) (by kernel_rfl) Le.refl (fun _ _ _ h h'=>h.trans h') (fun _ _ _ h h'=>h.trans h') (fun _ _ h=>Gr.of_le h) ⟨StQ.is,StQ.is,StQ.is,StQ.is,StQ.is,StQ.is,StQ.is,StQ.is,StQ.is,StQ.is,StQ.is,StQ.is,StQ.is,(fun _ _ _ _ h hb=>BsF.gr hb h),(fun _ _ _ _ h hb=>Io.le hb h),StQ.is,StQ.is,trivial⟩ ?m8
     case m8 =>
      simp (maxSteps:=100000000) only [AR,DU,Nat.reduceBEq,cond_true,cond_false,AU,AH,AE,B6,AD,Am,Au,List.set_cons_succ,List.set_cons_zero,List.map_cons,List.getElem?_cons_zero,List.getElem?_cons_succ,Option.getD_some,List.map_nil,List.take_succ_cons,List.take_zero,List.drop_succ_cons,List.drop_zero,List.cons_append,List.nil_append,List.length_cons,List.length_nil,Nat.reduceAdd]
      intro x0 x1 x2 x3 x4 x5 x6 x7 x8 x9 x10 x11 x12 x13 x14 x15 x16
      refine⟨⟨?_,?_,?_,?_,?_,?_,?_,?_,?_,?_,?_,?_,?_,?_,?_,?_,?_,trivial⟩,?_⟩
      ·intro wo hw KQ hK;go_simp;exact hK _ _ .r .m
      ·intro wo hw KQ hK;go_simp;exact hK _ _ .r .m
      ·intro wo hw h1 KQ hK;cases h1;go_simp;exact hK _ _ .r .m
      ·intro wo hw h2 KQ hK;cases h2;go_simp;exact hK _ _ .r .m
      ·intro wo hw h3 KQ hK;cases h3;have kk:=Af (hw.heap HD8.out.ha (HD8.out.D.hP.row_ne HD8.out.ha (by decide))) 4 ((.slice Ap s.people.length cp)) rfl wo (Le.refl _);go_simp;exact hK _ _ .r .m
      ·intro wo hw KQ hK;go_simp;exact hK _ _ .r .m
      ·intro wo hw KQ hK;go_simp;exact hK _ _ .r .m
      ·intro wo hw h6 KQ hK;cases h6;have kk:=Af (hw.heap HX8.out (HD8.out.D.hP.row_ne HX8.out (by decide))) 1 (.int .i64 q.who) rfl wo (Le.refl _);go_simp;exact hK _ _ .r .m
      ·intro wo hw KQ hK;go_simp;exact hK _ _ .r .m
      ·intro wo hw h8 KQ hK;cases h8;have kk:=Af (hw.heap HX8.out (HD8.out.D.hP.row_ne HX8.out (by decide))) 2 (.int .i64 q.room) rfl wo (Le.refl _);go_simp;exact hK _ _ .r .m
      ·intro wo hw KQ hK;go_simp;exact hK _ _ .r .m
      ·intro wo hw h10 KQ hK;cases h10;have kk:=Af (hw.heap HX8.out (HD8.out.D.hP.row_ne HX8.out (by decide))) 3 (.int .i64 q.rights) rfl wo (Le.refl _);go_simp;exact hK _ _ .r .m
      ·intro wo hw h7 h9 h11 KQ hK;cases h7;cases h9;cases h11;go_simp;exact hK _ _ .r .m
      ·intro wo hw h12 KQ hK;cases h12;go_simp;exact hK _ _ ((Le.refl _).alloc _) (BsF.new (Ds ⟨q.who,q.room,q.rights⟩) _ (fun k hk=>Nat.lt_of_lt_of_le (HD8.out.D.hP.lt hk) hw.size))
      ·intro wo hw h4 h5 h13 KQ hK;cases h4;cases h5;obtain⟨HBS⟩:=h13;go_simp;obtain⟨gq,rfl,hq1,hq2⟩:=HBS;refine (ins_per (HD8.out.D.hP.le hw) (by rw[List.length_map];omega) (s.pAt q.who) (by rw[List.length_map];exact pAt_le s q.who) (Ds ⟨q.who,q.room,q.rights⟩) rfl (by simp[Ds,Value.oneCell']) (Fq s) gq hq2 hq1).mono ?_;rintro e w' ⟨v',rfl,ho,hf⟩;exact hK _ _ (Gr.of_fp hf) ⟨ho.mono (fun k _ hk=>hk.elim .inl fun hk=>.inr (Nat.le_trans hw.size hk)),(Gr.of_le hw).trans (Gr.of_fp hf)⟩
      ·intro wo hw h0 KQ hK;cases h0;go_simp;exact hK _ _ .r .m
      ·intro wo hw h15 KQ hK;cases h15;go_simp;exact hK _ _ .r .m
      ·intro wz hz h0 h1 h2 h3 h4 h5 h6 h7 h8 h9 h10 h11 h12 h13 h14 h15 h16;cases h0;cases h1;cases h2;cases h3;cases h4;cases h5;cases h6;cases h7;cases h8;cases h9;cases h10;cases h11;cases h12;obtain⟨HBS⟩:=h13;obtain⟨HI1,HI2⟩:=h14;cases h15;cases h16;skip
       have HF9:=Aa (Fp.of_gr HI2)
       have HO9:=Aa HI1
       have HA9:=Aa (HF9.out.heap HD8.out.ha (fun e=>HD8.out.D.hP.row_ne HD8.out.ha (by decide) e))
       have H1C:=Aa (AF HI1)
       clear HI1 HI2
       go_wp2_with (refine Ao rfl 58 (.tmp 63) (.tmp 61) rfl [.int .i64 s.mp,.int .i64 s.mt,.int .i64 s.ms,.int .i64 s.ml] (v:=x14) (old:=(.slice Ap s.people.length cp)) (post:=[tv,sv]) rfl rfl (by kernel_rfl) H1C.out HA9.out ?_;intro w5 h5 hg5;have H5:=Aa h5;have HG5:=Aa hg5;clear h5 hg5)
       rw[HR.out,HE.out]
       obtain⟨h8,h9⟩:=HD8.out.newPeople (l:=AV s.people (s.pAt q.who) ⟨q.who,q.room,q.rights⟩) HF9.out (by rw[C8];exact HO9.out) HG5.out H5.out
       have hle:=HLq.out.trans (Le.refl wz8).drew
       exact⟨rfl,⟨_,_,_,_,h8.mono fun k _ hk=>hk.elim .inl fun hk=>.inr (Nat.le_trans hle.size hk)⟩,(Fp.of_le hle).trans h9⟩
   ·have HE:=Aa (show s.join q=(s,22) by rw[DS.join,HB1.out,HB2.out,HB3.out,hh,if_neg (by simp),if_pos rfl])
    clear hh
    go_wp2_with fail
    rw[HR.out,HE.out]
    exact DoP.same H0.out HL4.out rfl
end
end Go.Proofs.YtmcndlofaanjiaaGreat
