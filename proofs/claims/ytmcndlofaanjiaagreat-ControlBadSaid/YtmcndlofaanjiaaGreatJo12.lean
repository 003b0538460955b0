/- Texts of one claim, laid together: InsL DfS Dele Del8 -/
import Derived.Lib.AppendZerosOnto
import Derived.Lib.AppendZeros
import Derived.Lib.Overlaps
import Derived.ArgAppend
import Derived.Test.YtmcndlofaanjiaaGreatJo09
import Derived.Test.YtmcndlofaanjiaaGreatJo05
import Derived.Test.YtmcndlofaanjiaaGreatJo08
import Derived.Test.YtmcndlofaanjiaaGreatJo11
/- slices.Insert of one element: lists. No program stands here. -/
namespace Go.Proofs.YtmcndlofaanjiaaGreat
open Go.RowKit
set_option linter.unusedVariables false
set_option maxRecDepth 100000
set_option maxHeartbeats 8000000
theorem CE {xs:List (List Value)} {i:Nat} {x:List Value}:(AV xs i x).flatten=(xs.take i).flatten++(x++(xs.drop i).flatten):=by
 simp[AV]
theorem DC {s:Nat} {xs:List (List Value)} {i:Nat} {x:List Value} (h:∀ y∈xs,y.length=s) (hx:x.length=s):∀ y∈AV xs i x,y.length=s:=fun y hy=>by
 rcases Bm.1 hy with rfl | hy
 ·exact hx
 ·exact h y hy
theorem Dh {s:Nat} {xs:List (List Value)} (h:∀ y∈xs,y.length=s) {i:Nat} (hi:i≤xs.length):(xs.take i).flatten.length=i*s:=by
 rw[AJ (s:=s) (fun y hy=>h y (List.mem_of_mem_take hy)),List.length_take,Nat.min_eq_left hi]
theorem Dg {s:Nat} {xs:List (List Value)} (h:∀ y∈xs,y.length=s) (i:Nat):(xs.drop i).flatten.length=(xs.length - i)*s:=by
 rw[AJ (s:=s) (fun y hy=>h y (List.mem_of_mem_drop hy)),List.length_drop]
theorem Eo {A D x R:List Value} {i s n:Nat} {cur:List Value} (hc:cur=A++D++R) (hA:A.length=i*s) (hD:D.length=(n - i)*s) (hx:x.length=s) (hi:i≤n) (hR:s≤R.length) :
  ∃ R',((cur.take ((i+1)*s)++D++cur.drop ((i+1)*s+D.length)).take (i*s)++x++(cur.take ((i+1)*s)++D++cur.drop ((i+1)*s+D.length)).drop (i*s+x.length))=A++(x++D)++R'∧R'.length+s=R.length:=by
 have e1:(i+1)*s=i*s+s:=Nat.succ_mul i s
 have hl:cur.length=A.length+D.length+R.length:=by rw[hc];simp only[List.length_append]
 have h1:(cur.take ((i+1)*s)++D++cur.drop ((i+1)*s+D.length)).take (i*s)=A:=by
  rw[List.append_assoc,List.take_append_of_le_length (by rw[List.length_take];omega),List.take_take,Nat.min_eq_left (by omega),hc,List.append_assoc,← hA,List.take_left']
  rfl
 have h2:(cur.take ((i+1)*s)++D++cur.drop ((i+1)*s+D.length)).drop (i*s+x.length)=D++cur.drop ((i+1)*s+D.length):=by
  rw[List.append_assoc,List.drop_append_of_le_length (by rw[List.length_take];omega)]
  have h3:(cur.take ((i+1)*s)).drop (i*s+x.length)=[]:=List.drop_eq_nil_of_le (by rw[List.length_take];omega)
  rw[h3,List.nil_append]
 refine⟨cur.drop ((i+1)*s+D.length),?_,?_⟩
 ·rw[h1,h2];simp
 ·rw[List.length_drop];omega
theorem Ee {A D x R:List Value} {i s n:Nat} {cur:List Value} (hc:cur=A++R) (hA:A.length=i*s) (hD:D.length=(n - i)*s) (hx:x.length=s) (hi:i≤n) (hR:s+(n - i)*s≤R.length) :
  ∃ R',((cur.take (i*s)++x++cur.drop (i*s+x.length)).take ((i+1)*s)++D++(cur.take (i*s)++x++cur.drop (i*s+x.length)).drop ((i+1)*s+D.length))=A++(x++D)++R'∧R'.length+s+D.length=R.length:=by
 have e1:(i+1)*s=i*s+s:=Nat.succ_mul i s
 have h1:cur.take (i*s)=A:=by rw[hc,← hA,List.take_left'];rfl
 have h2:cur.drop (i*s+x.length)=R.drop x.length:=by rw[hc,← hA,List.drop_length_add_append]
 rw[h1,h2]
 have h3:(A++x++R.drop x.length).take ((i+1)*s)=A++x:=by
  have:(i+1)*s=(A++x).length:=by rw[List.length_append];omega
  rw[this,List.take_left']
  rfl
 have h4:(A++x++R.drop x.length).drop ((i+1)*s+D.length)=(R.drop x.length).drop D.length:=by
  have:(i+1)*s=(A++x).length:=by rw[List.length_append];omega
  rw[this,List.drop_length_add_append]
 rw[h3,h4]
 refine⟨(R.drop x.length).drop D.length,by simp,?_⟩
 rw[List.length_drop,List.length_drop]
 omega
theorem Fb {P:Program} {ops:Array Oper} {rest:List Oper} {o:Oper} {a:Act} {w:World} {Q:Exit→Act→World→Prop} (hgd:o.guard=none) {t tn T:TypeId} {z:Value} {sz bytes:Nat} (S:SlT P t T z sz bytes) {kn:IntKind} (htn:P.underlying tn=some (.int kn)) (s x:Operand)
  (ho:o.op=.call { callee:=.builtin .append,args:=#[s,x],argTypes:=#[t,tn] }) {g n cap k m:Nat} {kq:IntKind} (hs:a.eval s=.slice (some ⟨g,0,none⟩) n cap) (hx:a.eval x=.int kq (k:Int)) {olds:List Value} (hold:w.rangeAt g 0 olds) (hlo:olds.length=n*sz) (h0:0<k) (hm:n+k=m) (hg:cap<m) (hb:m*bytes≤140737488355328) (h63:m≤1000000)
  (h:∀ (w':World) (c:Nat) (zs:List Value),w'.heap[w.heap.size]?=some (.cells (olds++zs).toArray T (0,0))→zs.length=(c - n)*sz→m≤c→c≤maxLen→Le w w'→wpList P ops Q rest (a.put o.dst (.slice (some ⟨w.heap.size,0,none⟩) m c)) w'):wpList P ops Q (o::rest) a w:=by
 subst hm
 obtain⟨i,hi,hz,hsz,hby⟩:=info_parts S.info
 have hdr:w.drew.rangeAt g 0 olds:=hold
 have hfc:=run_firstCells_some (P:=P) w.drew i.size n ⟨g,0,none⟩ n cap olds (by rw[hsz];exact hlo) (fun j v hj=>by rw[BG];exact hdr j v hj)
 have hr:=Lib.run_append_grow_zeros (P:=P) w t tn o.type T i z kq kn S.under htn hi hz (some ⟨g,0,none⟩) n cap olds hfc k h0 (by rw[hsz];exact S.pos) hg (by omega) (by rw[hby];have:=Nat.mul_le_mul_right bytes (show k≤n+k by omega);omega) (by rw[hby];exact growslice_fits hg hb)
 refine Lib.wpList_append_run w hgd s x t tn ho _ _ hs hx _ _ hr ?_
 have hge:=grownCap_ge w (n+k) cap T
 refine h _ (grownCap w (n+k) cap T) ((Builtin.zeroCells z.cells k).toList++(Builtin.zeroCells z.cells (grownCap w (n+k) cap T - (n+k))).toList) ?_ ?_ hge (grownCap_le_maxLen w _ _ _ (by simp only[maxLen];omega)) ((Le.refl w).drew.alloc _)
 ·have h1:=heap_alloc_new w.drew (.cells (olds.toArray++Builtin.zeroCells z.cells k++Builtin.zeroCells z.cells (grownCap w (n+k) cap T - (n+k))) T)
  refine h1.trans ?_
  congr 2
  simp
 ·simp only[List.length_append,Array.length_toList,size_zeroCells,S.zs,← Nat.add_mul]
  congr 1
  omega
theorem Dc:SlT Tryz.prog 60 133 (.agg #[.int .i64 0,.int .i64 0,.int .i64 0,.int .i64 0,.bool false]) 5 40:=⟨Tryz.underlying60,by kernel_rfl,rfl,by omega⟩
theorem ix_sub {M:Nat→Prop} {w:World} {v:Value} {xs:List (List Value)} (hO:AA M w 133 5 v xs) (hn:xs.length≤1000000) (g:Nat) (cb:Array Value) (eg:∀ args w,(callFunc g args).run Tryz.prog w=.ok (.enter g args) w) (del:List Value→Bool) (I:Nat→World→Prop)
  (hI:∀ j W W',I j W→Fp (fun k=>v.ownBlock=some k) W W'→I j W') (hcall:∀ (j:Nat) (x:List Value) (W:World),xs[j]?=some x→I j W→Calls Tryz.prog g (#[.agg x.toArray]++cb) W fun e w'=>e=.returned (.bool (del x))∧I (j+1) w'∧KT 133 W w') (h0:I 0 w) :
  Calls Tryz.prog 217 #[v,.func (.func g) #[] cb] w fun e w'=>e=.returned (.int .i64 (if ixN del xs<xs.length then (ixN del xs:Int) else -1))∧I (if ixN del xs<xs.length then ixN del xs+1 else xs.length) w'∧KT 133 w w':=by
 obtain⟨A,cap,rfl,_,_,hcap⟩:=hO.cells
 have HO:=Aa hO
 have HI:=Aa hI
 have HC:=Aa hcall
 have H0:=Aa h0
 have HIX:Hd (∀ (k:Nat) (x:List Value),xs[k]?=some x→del x=true→(∀ (t:Nat) (y:List Value),t<k→xs[t]?=some y→del y=false)→ixN del xs=k):=Aa fun k x=>Fj
 have HIN:Hd ((∀ (t:Nat) (y:List Value),xs[t]?=some y→del y=false)→ixN del xs=xs.length):=Aa DX
 obtain⟨R,hR⟩:∃ R:Ending→World→Prop,R=fun e w'=>e=.returned (.int .i64 (if ixN del xs<xs.length then (ixN del xs:Int) else -1))∧I (if ixN del xs<xs.length then ixN del xs+1 else xs.length) w'∧KT 133 w w':=⟨_,rfl⟩
 rw[← hR]
 have HR:=Aa hR
 clear hR hO hI hcall h0
 go_enter Tryz.func217,Tryz.ntmps217
 go_wp2_with fail
 go_loopw [5,8] (fun _ j wr=>∃ k:Nat,k≤xs.length∧j=.int .i64 k∧Hd (I k wr)∧Hd (KT 133 w wr)∧Hd (∀ (t:Nat) (y:List Value),t<k→xs[t]?=some y→del y=false)) (fun _ j _=>xs.length - (intOf j).toNat)
 case atStart=>exact⟨0,Nat.zero_le _,rfl,H0,Aa (KT.refl _ _),Aa fun t y ht=>by omega⟩
 case round =>
  obtain⟨k,hk,rfl,HK,HT,HN⟩:=hrel
  rcases Nat.lt_or_ge k xs.length with hlt | hge
  ·have hltI:(k:Int)<(xs.length:Int):=by omega
   have e:=List.getElem?_eq_getElem hlt
   obtain⟨gr,hA,hrg⟩:=(HO.out.kt HT.out).elem e
   subst hA
   have RG:=Aa hrg
   have HL:=Aa (HO.out.len _ (List.mem_of_getElem? e))
   have HX:=Aa e
   have q1:IntKind.i64.wrap ((k:Int)+1)=((k+1:Nat):Int):=by rw[IntWalk.i64_in _ (by omega)];simp
   clear e hrg
   generalize xs[k]=x at *
   have HCC:=Aa (HC.out k x wr HX.out HK.out)
   cases hd:del x
   ·have HDD:=Aa hd
    clear hd
    go_wp2_with (refine wpList_load_mid rfl 133 (.tmp 14) rfl gr (k*5) rfl x _ RG.out Tryz.underlying133 rfl (by rw[HL.out];kernel_rfl) ?_)
    refine HCC.out.mono ?_
    rintro e w3 ⟨rfl,hi3,ht3⟩
    rw[HDD.out]
    have HI3:=Aa hi3
    have HT3:=Aa (HT.out.trans ht3)
    clear hi3 ht3
    go_wp2_with fail
    refine⟨⟨k+1,hlt,rfl,HI3,HT3,Aa fun t y ht hy=>?_⟩,by simp only[intOf];omega⟩
    rcases Nat.lt_or_ge t k with h | h
    ·exact HN.out t y h hy
    ·obtain rfl:t=k:=by omega
     rw[HX.out] at hy
     injection hy with hy
     rw[← hy];exact HDD.out
   ·have HDD:=Aa hd
    clear hd
    go_wp2_with (refine wpList_load_mid rfl 133 (.tmp 14) rfl gr (k*5) rfl x _ RG.out Tryz.underlying133 rfl (by rw[HL.out];kernel_rfl) ?_)
    refine HCC.out.mono ?_
    rintro e w3 ⟨rfl,hi3,ht3⟩
    rw[HDD.out]
    have HI3:=Aa hi3
    have HT3:=Aa (HT.out.trans ht3)
    clear hi3 ht3
    go_wp2_with fail
    rw[HR.out]
    have e9:=HIX.out k x HX.out HDD.out HN.out
    refine⟨?_,?_,HT3.out⟩
    ·rw[e9,if_pos hlt];rfl
    ·rw[e9,if_pos hlt];exact HI3.out
  ·have hgeI:¬ (k:Int)<(xs.length:Int):=by omega
   obtain rfl:k=xs.length:=by omega
   go_wp2_with fail
   rw[HR.out]
   have e9:=HIN.out fun t y hy=>HN.out t y (List.getElem?_eq_some_iff.1 hy).1 hy
   refine⟨?_,?_,HT.out⟩
   ·rw[e9,if_neg (Nat.lt_irrefl _)]
   ·rw[e9,if_neg (Nat.lt_irrefl _)];exact HK.out
def DfP_sub (M:Nat→Prop) (v:Value) (xs:List (List Value)) (del:List Value→Bool) (I:Nat→World→Prop) (e:Ending) (w':World):Prop :=
 ∃ v',e=.returned v'∧AA M w' 133 5 v' (xs.filter fun x=>!del x)∧v'.ownBlock=v.ownBlock∧I xs.length w'
theorem df_sub {M:Nat→Prop} {w:World} {v:Value} {xs:List (List Value)} (hO:AA M w 133 5 v xs) (hn:xs.length≤1000000) (g:Nat) (cb:Array Value) (eg:∀ args w,(callFunc g args).run Tryz.prog w=.ok (.enter g args) w) (del:List Value→Bool) (I:Nat→World→Prop)
  (hI:∀ j W W',I j W→Fp (fun k=>v.ownBlock=some k) W W'→I j W') (hcall:∀ (j:Nat) (x:List Value) (W:World),xs[j]?=some x→I j W→Calls Tryz.prog g (#[.agg x.toArray]++cb) W fun e w'=>e=.returned (.bool (del x))∧I (j+1) w'∧KT 133 W w') (h0:I 0 w) (h1:∀ x∈xs,∀ u∈x,u.oneCell'=true) :
  Calls Tryz.prog 173 #[v,.func (.func g) #[] cb] w (DfP_sub M v xs del I):=by
 have HIX:=Aa (fun W hW=>ix_sub (w:=W) (hO.le hW) hn g cb eg del I hI hcall (hI 0 w W h0 (Fp.of_le hW)))
 have HO:=Aa hO
 have HI:=Aa hI
 have HC:=Aa hcall
 have H1:=Aa h1
 obtain⟨R,hR⟩:∃ R:Ending→World→Prop,R=DfP_sub M v xs del I:=⟨_,rfl⟩
 rw[← hR]
 have HR:=Aa hR
 clear hR hI hcall h0 h1
 obtain⟨i,hi⟩:∃ i,i=ixN del xs:=⟨_,rfl⟩
 rw[← hi] at HIX
 have HIE:=Aa hi
 clear hi
 go_enter Tryz.func173,Tryz.ntmps173
 go_wp2_with fail
 refine (HIX.out w (Le.refl w)).mono ?_
 rintro e w2 ⟨rfl,hi2,ht2⟩
 have HI2:=Aa hi2
 have HT2:=Aa ht2
 clear hi2 ht2 HIX
 rcases Nat.lt_or_ge i xs.length with hlt | hge
 ·rw[if_pos hlt] at HI2 ⊢
  have hz:((i:Int)==-1)=false:=by rw[beq_eq_false_iff_ne];omega
  rcases hO.val with ⟨_,e⟩ | ⟨gr,cap,cur,hv,hM,hg,hc,hm,hs,hr⟩
  ·subst e;simp at hlt
  ·subst hv
   obtain⟨x0,hx0,hd0⟩:∃ x,xs[i]?=some x∧del x=true:=by rw[HIE.out];exact GO (by rw[← HIE.out];exact hlt)
   obtain⟨hst1,hst2⟩:=C7.start hr (i:=i) (by rw[HIE.out];exact Ea del xs) hx0 hd0
   have HG2:=Aa (HT2.out.heap hg)
   have HF1:=Aa hst1
   have HF2:=Aa (show ((xs.take (i+1)).filter fun v=>!del v).length=i by rw[hst2,List.length_take];omega)
   have HCL:=Aa (show cur.toList.length=cap*5 by simpa using hs)
   have HM:=Aa hM
   have HCM:=Aa hm
   have q1:IntKind.i64.wrap ((i:Int)+1)=((i+1:Nat):Int):=by rw[IntWalk.i64_in _ (by omega)];simp
   clear hx0 hd0 hst1 hst2 hg hr hs hO hM hm
   go_wp2_with fail
   go_loopw [5,6,7] (fun s5 s6 _ wr=>∃ (j f:Nat) (cr:List Value),f<j∧j≤xs.length∧s6=.int .i64 j∧s5=.int .i64 f∧Hd (((xs.take j).filter fun v=>!del v).length=f)∧Hd (I j wr)∧Hd (wr.heap[gr]?=some (.cells cr.toArray 133 (0,0)))∧Hd (cr.length=cap*5)∧Hd (C7 cr 5 xs del j)) (fun _ s6 _ _=>xs.length - (intOf s6).toNat)
   case atStart=>exact⟨i+1,i,cur.toList,by omega,hlt,rfl,rfl,HF2,HI2,Aa (by rw[Array.toArray_toList];exact HG2.out),HCL,HF1⟩
   case round =>
    clear HF2 HI2 HG2 HCL HF1 q1 hz
    obtain⟨j,f,cr,hfj,hj,rfl,rfl,HF,HIj,HG,HCL,HD⟩:=hrel
    rcases Nat.lt_or_ge j xs.length with hjl | hjg
    ·have hjI:(j:Int)<(xs.length:Int):=by omega
     have hfI:(f:Int)<(xs.length:Int):=by omega
     have e:=List.getElem?_eq_getElem hjl
     have HX:=Aa e
     have HL:=Aa (HO.out.len _ (List.mem_of_getElem? e))
     have HU:=Aa (H1.out _ (List.mem_of_getElem? e))
     have HCC:=Aa (fun W=>HC.out j _ W e)
     have q1:IntKind.i64.wrap ((j:Int)+1)=((j+1:Nat):Int):=by rw[IntWalk.i64_in _ (by omega)];simp
     have q2:IntKind.i64.wrap ((f:Int)+1)=((f+1:Nat):Int):=by rw[IntWalk.i64_in _ (by omega)];simp
     clear e
     generalize xs[j]=x at *
     have RG:=Aa (show wr.rangeAt gr (j*5) x from fun k u hk=>by
      have hk3:k<5:=by rw[← HL.out];exact (List.getElem?_eq_some_iff.1 hk).1
      rw[Ae HG.out,List.getElem?_toArray,HD.out.back j x (Nat.le_refl _) HX.out k hk3,hk])
     go_upto_region 8 with (first | (refine wpList_load_mid rfl 133 (.tmp 24) rfl gr (j*5) rfl x _ RG.out Tryz.underlying133 rfl (by rw[HL.out];kernel_rfl) ?_) | (refine Ak rfl 133 (.tmp 7) (.tmp 25) rfl (cs:=x) (old:=[.int .i64 0,.int .i64 0,.int .i64 0,.int .i64 0,.bool false]) rfl rfl (by rw[HL.out];kernel_rfl) HU.out (heap_alloc_new _ _) (by rw[HL.out];rfl) ?_;intro w3 h3 hg3;have H3:=Aa h3;have HL3:=Aa (show Le wr w3 from ((Le.refl wr).alloc _).box1 hg3 (Nat.le_refl _));clear h3 hg3))
     have HI3:=Aa (HI.out j wr w3 HIj.out (Fp.of_le HL3.out))
     have HG3:=Aa (HL3.out.heap HG.out)
     clear HIj HG RG HL3
     generalize wr.heap.size=gx at *
     go_wp2_with (refine Al rfl 133 (.tmp 7) rfl (cs:=x) _ rfl Tryz.underlying133 rfl (by rw[HL.out];kernel_rfl) H3.out ?_)
     refine (HCC.out w3 HI3.out).mono ?_
     rintro e w4 ⟨rfl,hi4,ht4⟩
     have HI4:=Aa hi4
     have HG4:=Aa (ht4.heap HG3.out)
     have H4:=Aa (ht4.heap H3.out)
     clear hi4 ht4 HI3 HG3 H3 HCC
     cases hd:del x
     ·have HDD:=Aa hd
      clear hd
      obtain⟨pre,old,post,hcr,hpre,hold⟩:=Ec HCL.out (show f<cap by omega)
      have HCR:=Aa hcr
      have HPRE:=Aa hpre
      have HOLD:=Aa hold
      clear hcr hpre hold
      go_wp2_with (first | (refine Al rfl 133 (.tmp 7) rfl (cs:=x) _ rfl Tryz.underlying133 rfl (by rw[HL.out];kernel_rfl) H4.out ?_) | (refine Bc rfl 133 (.tmp 33) (.tmp 32) rfl pre (cs:=x) (old:=old) (post:=post) (by rw[HPRE.out];rfl) rfl (by rw[HL.out];kernel_rfl) HU.out (by have:=HG4.out;rw[HCR.out,List.append_assoc] at this;exact this) (by rw[HL.out,HOLD.out]) ?_;intro w5 h5 hg5;have H5:=Aa h5;have HG5:=Aa hg5;clear h5 hg5))
      have hD2:=HD.out
      rw[HCR.out] at hD2
      obtain⟨k1,k2⟩:=hD2.keep HX.out HDD.out HL.out (by rw[HF.out];exact HPRE.out) HOLD.out
      refine⟨⟨j+1,f+1,pre++x++post,by omega,hjl,rfl,rfl,Aa ?_,Aa (HI.out _ w4 w5 HI4.out (Fp.of_grown HG5.out rfl)),Aa (by rw[List.append_assoc];exact H5.out),Aa ?_,Aa k1⟩,by simp only[intOf];omega⟩
      ·rw[k2,List.length_append,HF.out];rfl
      ·have:=HCL.out
       rw[HCR.out] at this
       simp only[List.length_append] at this ⊢
       rw[HL.out]
       have:=HOLD.out
       omega
     ·have HDD:=Aa hd
      clear hd
      go_wp2_with fail
      obtain⟨k1,k2⟩:=HD.out.skip HX.out HDD.out
      exact⟨⟨j+1,f,cr,by omega,hjl,rfl,rfl,Aa (by rw[k2];exact HF.out),HI4,HG4,HCL,Aa k1⟩,by simp only[intOf];omega⟩
    ·have hjI:¬ (j:Int)<(xs.length:Int):=by omega
     obtain rfl:j=xs.length:=by omega
     have hfn:f≤xs.length:=by omega
     have hfc:f<cap:=by omega
     have hfc2:¬ cap=f:=by omega
     have hfc3:f≤cap:=by omega
     have hmul:f*5+(xs.length - f)*5=xs.length*5:=by rw[← Nat.add_mul];congr 1;omega
     have hmul2:xs.length*5≤cap*5:=Nat.mul_le_mul_right _ hc
     have HML:=Aa (And.intro hmul hmul2)
     clear hmul hmul2
     go_wp2_with (refine Cs rfl Dc (by simp[Value.cells,Value.oneCell']) (.tmp 38) rfl (g:=gr) (off:=f*5) (n:=xs.length - f) rfl HG.out (by rw[HCL.out,HML.out.1];exact HML.out.2) ?_;intro zs w7 hzs h7 hg7;have HZ:=Aa hzs;have H7:=Aa h7;have HG7:=Aa hg7;clear hzs h7 hg7)
     rw[HR.out]
     have hfil:(xs.take xs.length).filter (fun v=>!del v)=xs.filter fun v=>!del v:=by rw[List.take_length]
     have hF:=HF.out
     have hD:=HD.out.front
     rw[hfil] at hF hD
     have hlen:∀ y∈xs.filter (fun v=>!del v),y.length=5:=fun y hy=>HO.out.len y (List.mem_filter.1 hy).1
     have hfs:(f*5)≤cr.length:=by rw[HCL.out];exact Nat.mul_le_mul_right _ hfc3
     have htk:=hD.take hlen (by rw[hF];exact hfs)
     rw[hF] at htk
     refine⟨_,rfl,⟨⟨?_,.inr ⟨gr,cap,(cr.take (f*5)++zs++cr.drop (f*5+(xs.length - f)*5)).toArray,?_,Nat.zero_le _,H7.out,?_,HCM.out,?_,?_⟩⟩,fun k hk=>?_,hlen⟩,rfl,HI.out _ wr w7 HIj.out (Fp.of_grown HG7.out rfl)⟩
     ·rw[AJ hlen]
     ·rw[hF]
     ·rw[hF];exact hfc3
     ·have h1:=HCL.out
      have h2:=HML.out
      simp only[List.size_toArray,List.length_append,List.length_take,List.length_drop,HZ.out,HCL.out]
      omega
     ·rw[hF,List.append_assoc,List.take_append_of_le_length (by rw[List.length_take];omega),List.take_take,Nat.min_self]
      exact htk
     ·simp only[Value.ownBlock,Option.some.injEq] at hk
      rw[← hk];exact HM.out
 ·rw[if_neg (by omega)] at HI2 ⊢
  have HXS:=Aa (Gp (del:=del) (xs:=xs) (by rw[← HIE.out];omega))
  go_wp2_with fail
  rw[HR.out]
  exact⟨v,rfl,by rw[HXS.out];exact hO.kt HT2.out,rfl,HI2.out⟩
theorem EC {P:Program} {ops:Array Oper} {rest:List Oper} {o:Oper} {a:Act} {w:World} {Q:Exit→Act→World→Prop} (hgd:o.guard=none) {t T:TypeId} {z:Value} {sz bytes:Nat} (S:SlT P t T z sz bytes) (s x:Operand)
  (ho:o.op=.call { callee:=.builtin .append,args:=#[s,x],argTypes:=#[t,t] }) {g n cap m k c:Nat} {A:Addr} (hs:a.eval s=.slice (some ⟨g,0,none⟩) n cap) (hx:a.eval x=.slice (some A) m c) {pre old post news:List Value} {T':TypeId} (hg:w.heap[g]?=some (.cells (pre++(old++post)).toArray T' (0,0))) (hp:pre.length=n*sz) (hol:old.length=news.length) (hl:news.length=m*sz)
  (hnews:∀ (j:Nat) (u:Value),news[j]?=some u→w.cell? (A.add j)=some u) (h1:∀ u∈news,u.oneCell'=true) (hk:n+m=k) (hroom:k≤cap)
  (h:∀ w',w'.heap[g]?=some (.cells (pre++(news++post)).toArray T' (0,0))→w.grownBy w' (some g)→wpList P ops Q rest (a.put o.dst (.slice (some ⟨g,0,none⟩) k cap)) w'):wpList P ops Q (o::rest) a w:=by
 subst hk
 obtain⟨i,hi,hz,hsz,hby⟩:=info_parts S.info
 have e1:0+n*i.size=pre.length:=by rw[hsz,hp,Nat.zero_add]
 have hrun:=run_append_room_cells (P:=P) w t o.type T i S.under hi g 0 n cap A m c news (by rw[hsz];exact hl) hnews h1 hroom
  (fun j hj=>by rw[e1,Ae hg,List.getElem?_toArray,List.getElem?_eq_getElem (by simp only[List.length_append];omega)];rfl) (fun j hj=>Ay hg _)
 rw[e1] at hrun
 exact Lib.wpList_append_run w hgd s x t t ho _ _ hs hx _ _ hrun (h _ (AZ g post news pre old w hol hg) (Bh g news pre.length w))
theorem ED {xs:List (List Value)} {i:Nat}:(xs.eraseIdx i).flatten=(xs.take i).flatten++(xs.drop (i+1)).flatten:=by
 rw[List.eraseIdx_eq_take_drop_succ,List.flatten_append]
theorem FN {xs:List (List Value)} {i:Nat} {y:List Value} (h:y∈xs.eraseIdx i):y∈xs:=(List.eraseIdx_sublist _ _).subset h
def DeleP (M:Nat→Prop) (w:World) (v:Value) (xs:List (List Value)) (i:Nat) (e:Ending) (w':World):Prop :=
 ∃ v',e=.returned v'∧AA M w' 133 5 v' (xs.eraseIdx i)∧Fp (fun k=>v.ownBlock=some k) w w'
theorem dele_sub {M:Nat→Prop} {w:World} {v:Value} {xs:List (List Value)} (hO:AA M w 133 5 v xs) (hn:xs.length≤1000) (i:Nat) (hlt:i<xs.length) (h1:∀ y∈xs,∀ u∈y,u.oneCell'=true) :
  Calls Tryz.prog 213 #[v,.int .i64 i,.int .i64 ((i:Int)+1)] w (DeleP M w v xs i):=by
 have HO:=Aa hO
 have H1:=Aa h1
 obtain⟨R,hR⟩:∃ R,R=DeleP M w v xs i:=⟨_,rfl⟩
 rw[← hR]
 have HR:=Aa hR
 clear hR hO h1
 rcases HO.out.val with ⟨_,e⟩ | ⟨g,cap,cur,hv,hM,hg,hc,hm,hs,hr⟩
 ·subst e;simp at hlt
 subst hv
 have hcl0:cur.toList.length=cap*5:=by simpa using hs
 have hA:=Dh HO.out.len (Nat.le_of_lt hlt)
 have hD:=Dg HO.out.len (i+1)
 have htk:=hr.take HO.out.len (by rw[hcl0];exact Nat.mul_le_mul_right _ hc)
 have e0:=List.getElem?_eq_getElem hlt
 have hxl:=HO.out.len _ (List.mem_of_getElem? e0)
 have hxsf:xs.flatten=(xs.take i).flatten++(xs[i]++(xs.drop (i+1)).flatten):=by
  rw[← List.flatten_cons,← List.flatten_append,← List.drop_eq_getElem_cons hlt,List.take_append_drop]
 have hcur:cur.toList=(xs.take i).flatten++(xs[i]++(xs.drop (i+1)).flatten)++cur.toList.drop (xs.length*5):=by
  rw[← hxsf,← htk,List.take_append_drop]
 have h1D:∀ u∈(xs.drop (i+1)).flatten,u.oneCell'=true:=Bf fun y hy=>H1.out y (List.mem_of_mem_drop hy)
 have hgl:w.heap[g]?=some (.cells cur.toList.toArray 133 (0,0)):=by rw[Array.toArray_toList];exact hg
 -- what is overwritten,what stays behind
 obtain⟨old,post,hop,hol⟩:∃ old post:List Value,(xs[i]++(xs.drop (i+1)).flatten)++cur.toList.drop (xs.length*5)=old++post∧old.length=(xs.drop (i+1)).flatten.length:=by
  refine⟨((xs[i]++(xs.drop (i+1)).flatten)++cur.toList.drop (xs.length*5)).take (xs.drop (i+1)).flatten.length,((xs[i]++(xs.drop (i+1)).flatten)++cur.toList.drop (xs.length*5)).drop (xs.drop (i+1)).flatten.length,(List.take_append_drop ..).symm,?_⟩
  rw[List.length_take]
  simp only[List.length_append]
  omega
 have hg2:w.heap[g]?=some (.cells ((xs.take i).flatten++(old++post)).toArray 133 (0,0)):=by rw[← hop,← List.append_assoc,← hcur];exact hgl
 have hpost:post.length=(cap - (xs.length - 1))*5:=by
  have h5:=congrArg List.length hcur
  rw[List.append_assoc,hop] at h5
  simp only[List.length_append] at h5
  rw[hcl0,hA,hol,hD] at h5
  have h6:cap*5=i*5+(xs.length - (i+1))*5+(cap - (xs.length - 1))*5:=by
   rw[← Nat.add_mul,← Nat.add_mul];congr 1;omega
  omega
 have hsrc:∀ (j:Nat) (u:Value),(xs.drop (i+1)).flatten[j]?=some u→w.cell? ⟨g,(i+1)*5+j,none⟩=some u:=fun j u hj=>by
  rw[Ae hgl,List.getElem?_toArray,hcur]
  have hjl:=(List.getElem?_eq_some_iff.1 hj).1
  have h6:(i+1)*5=i*5+5:=Nat.succ_mul ..
  rw[List.getElem?_append_left (by simp only[List.length_append];omega),List.getElem?_append_right (by omega),List.getElem?_append_right (by omega)]
  rw[← hj]
  congr 1
  omega
 have q1:IntKind.i64.wrap ((i:Int)+1)=((i+1:Nat):Int):=by rw[IntWalk.i64_in _ (by omega)];simp
 have iz:((i:Int)==(i:Int)+1)=false:=by rw[beq_eq_false_iff_ne];omega
 have i1:¬ (i:Int)=(i:Int)+1:=by omega
 have s0:(i:Int)≤(xs.length:Int):=by omega
 have s1:(i:Int)+1≤(xs.length:Int):=by omega
 have s2:(i:Int)≤(i:Int)+1:=by omega
 have s3:(xs.length:Int)≤(cap:Int):=by omega
 have s4:i<cap:=by omega
 have s5:¬ cap=i:=by omega
 have s6:¬ xs.length=i:=by omega
 have HG:=Aa hg2
 have HA:=Aa hA
 have HD:=Aa hD
 have HOL:=Aa hol
 have HSR:=Aa hsrc
 have H1D:=Aa h1D
 have HPO:=Aa hpost
 have HM:=Aa hM
 have HCM:=Aa hm
 clear hcl0 hA hD htk e0 hxl hxsf hcur h1D hgl hop hol hg2 hpost hsrc hM hm hs hr hg
 obtain⟨n1,hn1⟩:∃ n1,xs.length=n1+1:=⟨xs.length - 1,by omega⟩
 have HN1:=Aa hn1
 rw[hn1] at hc s0 s1 s3 s6 hlt hn
 have HDD:=Aa (show (xs.drop (i+1)).flatten.length=(n1 - i)*5 by have:=HD.out;rw[hn1,Nat.add_sub_add_right] at this;exact this)
 have HPP:=Aa (show post.length=(cap - n1)*5 by have:=HPO.out;rw[hn1] at this;exact this)
 have r1:(n1:Int)≤(n1:Int)+1:=by omega
 have r2:(n1:Int)+1≤(cap:Int):=by omega
 have r3:n1<cap:=by omega
 have r4:¬ cap=n1:=by omega
 have hin:i≤n1:=by omega
 have s8:i≤cap:=by omega
 go_enter Tryz.func213,Tryz.ntmps213
 rw[hn1]
 clear hn1 HD HPO
 rcases Nat.lt_or_ge (i+1) cap with hc1 | hc1
 ·have s7:¬ cap=i+1:=by omega
  go_upto_region 5 with fail
  have HGD:=Aa ((Le.refl w).drew.heap HG.out)
  refine' Aj 6 6 20 Le (Is _::Is _::Is _::Is _::Is _::Is _::[]) ([]::[]::[0,1]::[]::[]::[3,4]::[]) (by kernel_rfl) (by kernel_rfl) (by rfl) (by kernel_rfl) (by kernel_rfl) Le.refl (fun _ _ _ h h'=>h.trans h') ⟨St.is,St.is,St.is,St.is,St.is,St.is,trivial⟩ ?m5
  case m5 =>
   simp (maxSteps:=100000000) only [AR,Bv,AK,AC,An,AD,Am,Au,List.set_cons_succ,List.set_cons_zero,List.getElem?_cons_zero,List.getElem?_cons_succ,List.take_succ_cons,List.take_zero,List.drop_succ_cons,List.drop_zero,List.cons_append,List.nil_append,List.length_cons,List.length_nil,Nat.reduceAdd]
   intro x0 x1 x2 x3 x4 x5
   refine⟨⟨?_,?_,?_,?_,?_,?_,trivial⟩,?_⟩
   ·intro wo hw KQ hK;go_simp;exact hK _ _ .r .m
   ·intro wo hw KQ hK;go_simp;exact hK _ _ .r .m
   ·intro wo hw h0 h1 KQ hK;cases h0;cases h1;go_simp;exact hK _ _ .r .m
   ·intro wo hw KQ hK;go_simp;exact hK _ _ .r .m
   ·intro wo hw KQ hK;go_simp;exact hK _ _ .r .m
   ·intro wo hw h3 h4 KQ hK;cases h3;cases h4;go_simp;exact hK _ _ .r .m
   ·intro wz hz h0 h1 h2 h3 h4 h5;cases h0;cases h1;cases h2;cases h3;cases h4;cases h5;skip
    have HZG:=Aa (hz.heap HGD.out)
    have HLZ:=Aa ((Le.refl w).drew.trans hz)
    clear hz
    go_upto_region 6 with (refine EC rfl Dc (.tmp 22) (.tmp 25) rfl (g:=g) (n:=i) (cap:=cap) (m:=n1 - i) (k:=n1) (A:=⟨g,(i+1)*5,none⟩) rfl rfl HZG.out HA.out HOL.out HDD.out (fun j u hj=>by rw[BG];exact HLZ.out.cell (HSR.out j u hj)) H1D.out (by omega) (by omega) ?_;intro w5 h5 hg5;have H5:=Aa h5;have HG5:=Aa hg5;clear h5 hg5)
    have HCL:=Aa (show ((xs.take i).flatten++((xs.drop (i+1)).flatten++post)).length=cap*5 by
     have h1:=HA.out
     have h2:=HDD.out
     have h3:=HPP.out
     have h4:cap*5=i*5+(n1 - i)*5+(cap - n1)*5:=by rw[← Nat.add_mul,← Nat.add_mul];congr 1;omega
     simp only[List.length_append]
     omega)
    go_wp2_with (refine Cs rfl Dc (by simp[Value.cells,Value.oneCell']) (.tmp 31) rfl (g:=g) (off:=n1*5) (n:=1) rfl H5.out (by rw[HCL.out];have:=Nat.mul_le_mul_right 5 (show n1+1≤cap by omega);rw[Nat.succ_mul] at this;omega) ?_;intro zs w7 hzs h7 hg7;have HZ:=Aa hzs;have H7:=Aa h7;have HG7:=Aa hg7;clear hzs h7 hg7)
    rw[HR.out]
    have hle:=HO.out.len
    have hel:(xs.eraseIdx i).length=n1:=by rw[List.length_eraseIdx,HN1.out,if_pos (by omega)];rfl
    have hl2:∀ y∈xs.eraseIdx i,y.length=5:=fun y hy=>hle y (FN hy)
    have hfl:=AJ hl2
    rw[hel] at hfl
    have hAD:(xs.take i).flatten++(xs.drop (i+1)).flatten=(xs.eraseIdx i).flatten:=ED.symm
    have hadl:((xs.take i).flatten++(xs.drop (i+1)).flatten).length=n1*5:=by rw[hAD];exact hfl
    have hcl:=HCL.out
    have hmul:=Nat.mul_le_mul_right 5 (show n1+1≤cap by omega)
    rw[Nat.succ_mul] at hmul
    have htk:((xs.take i).flatten++((xs.drop (i+1)).flatten++post)).take (n1*5)=(xs.eraseIdx i).flatten:=by
     rw[← List.append_assoc,← hadl,List.take_left',hAD]
     rfl
    refine⟨.slice (some ⟨g,0,none⟩) n1 cap,rfl,⟨⟨?_,.inr ⟨g,cap,_,?_,Nat.zero_le _,H7.out,?_,HCM.out,?_,?_⟩⟩,fun k hk=>?_,hl2⟩,(Fp.of_le HLZ.out).trans ((Fp.of_grown (S:=fun k=>(Value.slice (some ⟨g,0,none⟩) xs.length cap).ownBlock=some k) HG5.out rfl).trans (Fp.of_grown HG7.out rfl))⟩
    ·rw[hel];exact hfl
    ·rw[hel]
    ·rw[hel];omega
    ·have h9:=HZ.out
     simp only[List.size_toArray,List.length_append,List.length_take,List.length_drop] at hcl ⊢
     omega
    ·rw[hel,List.append_assoc,List.take_append_of_le_length (by rw[htk,hfl];exact Nat.le_refl _),htk,← hfl,List.take_length]
    ·simp only[Value.ownBlock,Option.some.injEq] at hk
     rw[← hk];exact HM.out
 ·obtain rfl:cap=i+1:=by omega
  obtain rfl:i=n1:=by omega
  go_upto_region 5 with fail
  have HGD:=Aa ((Le.refl w).drew.heap HG.out)
  refine' Aj 6 6 20 Le (Is _::Is _::Is _::Is _::Is _::Is _::[]) ([]::[]::[0,1]::[]::[]::[3,4]::[]) (by kernel_rfl) (by kernel_rfl) (by rfl) (by kernel_rfl) (by kernel_rfl) Le.refl (fun _ _ _ h h'=>h.trans h') ⟨St.is,St.is,St.is,St.is,St.is,St.is,trivial⟩ ?m5
  case m5 =>
   simp (maxSteps:=100000000) only [AR,Bv,AK,AC,An,AD,Am,Au,List.set_cons_succ,List.set_cons_zero,List.getElem?_cons_zero,List.getElem?_cons_succ,List.take_succ_cons,List.take_zero,List.drop_succ_cons,List.drop_zero,List.cons_append,List.nil_append,List.length_cons,List.length_nil,Nat.reduceAdd]
   intro x0 x1 x2 x3 x4 x5
   refine⟨⟨?_,?_,?_,?_,?_,?_,trivial⟩,?_⟩
   ·intro wo hw KQ hK;go_simp;exact hK _ _ .r .m
   ·intro wo hw KQ hK;go_simp;exact hK _ _ .r .m
   ·intro wo hw h0 h1 KQ hK;cases h0;cases h1;go_simp;exact hK _ _ .r .m
   ·intro wo hw KQ hK;go_simp;exact hK _ _ .r .m
   ·intro wo hw KQ hK;go_simp;exact hK _ _ .r .m
   ·intro wo hw h3 h4 KQ hK;cases h3;cases h4;go_simp;exact hK _ _ .r .m
   ·intro wz hz h0 h1 h2 h3 h4 h5;cases h0;cases h1;cases h2;cases h3;cases h4;cases h5;skip
    have HZG:=Aa (hz.heap HGD.out)
    have HLZ:=Aa ((Le.refl w).drew.trans hz)
    clear hz
    go_upto_region 6 with (refine EC rfl Dc (.tmp 22) (.tmp 25) rfl (g:=g) (n:=i) (cap:=i+1) (m:=0) (k:=i) (A:=⟨g,0,none⟩) rfl rfl HZG.out HA.out HOL.out (by have:=HDD.out;rw[Nat.sub_self] at this;exact this) (fun j u hj=>by have h8:=(List.getElem?_eq_some_iff.1 hj).1;have h9:=HDD.out;rw[Nat.sub_self] at h9;omega) H1D.out (by omega) (by omega) ?_;intro w5 h5 hg5;have H5:=Aa h5;have HG5:=Aa hg5;clear h5 hg5)
    have HCL:=Aa (show ((xs.take i).flatten++((xs.drop (i+1)).flatten++post)).length=(i+1)*5 by
     have h1:=HA.out
     have h2:=HDD.out
     have h3:=HPP.out
     have h4:(i+1)*5=i*5+(i - i)*5+((i+1) - i)*5:=by rw[← Nat.add_mul,← Nat.add_mul];congr 1;omega
     simp only[List.length_append]
     omega)
    go_wp2_with (refine Cs rfl Dc (by simp[Value.cells,Value.oneCell']) (.tmp 31) rfl (g:=g) (off:=i*5) (n:=1) rfl H5.out (by rw[HCL.out];have:=Nat.mul_le_mul_right 5 (show i+1≤(i+1) by omega);rw[Nat.succ_mul] at this;omega) ?_;intro zs w7 hzs h7 hg7;have HZ:=Aa hzs;have H7:=Aa h7;have HG7:=Aa hg7;clear hzs h7 hg7)
    rw[HR.out]
    have hle:=HO.out.len
    have hel:(xs.eraseIdx i).length=i:=by rw[List.length_eraseIdx,HN1.out,if_pos (by omega)];rfl
    have hl2:∀ y∈xs.eraseIdx i,y.length=5:=fun y hy=>hle y (FN hy)
    have hfl:=AJ hl2
    rw[hel] at hfl
    have hAD:(xs.take i).flatten++(xs.drop (i+1)).flatten=(xs.eraseIdx i).flatten:=ED.symm
    have hadl:((xs.take i).flatten++(xs.drop (i+1)).flatten).length=i*5:=by rw[hAD];exact hfl
    have hcl:=HCL.out
    have hmul:=Nat.mul_le_mul_right 5 (show i+1≤(i+1) by omega)
    rw[Nat.succ_mul] at hmul
    have htk:((xs.take i).flatten++((xs.drop (i+1)).flatten++post)).take (i*5)=(xs.eraseIdx i).flatten:=by
     rw[← List.append_assoc,← hadl,List.take_left',hAD]
     rfl
    refine⟨.slice (some ⟨g,0,none⟩) i (i+1),rfl,⟨⟨?_,.inr ⟨g,(i+1),_,?_,Nat.zero_le _,H7.out,?_,HCM.out,?_,?_⟩⟩,fun k hk=>?_,hl2⟩,(Fp.of_le HLZ.out).trans ((Fp.of_grown (S:=fun k=>(Value.slice (some ⟨g,0,none⟩) xs.length (i+1)).ownBlock=some k) HG5.out rfl).trans (Fp.of_grown HG7.out rfl))⟩
    ·rw[hel];exact hfl
    ·rw[hel]
    ·rw[hel];omega
    ·have h9:=HZ.out
     simp only[List.size_toArray,List.length_append,List.length_take,List.length_drop] at hcl ⊢
     omega
    ·rw[hel,List.append_assoc,List.take_append_of_le_length (by rw[htk,hfl];exact Nat.le_refl _),htk,← hfl,List.take_length]
    ·simp only[Value.ownBlock,Option.some.injEq] at hk
     rw[← hk];exact HM.out
section
variable {M M':Nat→Prop} {w w' w'':World} {a:Nat} {s:DS} {pv tv sv pv' tv' sv':Value} {ts ts':List (Trk×Value)}
theorem AA.apart {T T' s1 s2:Nat} {v v':Value} {xs ys:List (List Value)} (h:AA M w T s1 v xs) (h':AA M' w T' s2 v' ys) (hn:T≠T') {k:Nat} (hk:v.ownBlock=some k):v'.ownBlock≠some k:=fun e=>by
 rcases h.val with ⟨rfl,_⟩ | ⟨g,cap,cur,rfl,_,hg,_⟩
 ·simp[Value.ownBlock] at hk
 ·simp only[Value.ownBlock,Option.some.injEq] at hk
  subst hk
  exact h'.row_ne hg (fun e=>hn e.symm) e
theorem AA.keep {T T' s1 s2:Nat} {v v':Value} {xs ys:List (List Value)} (h:AA M w T s1 v xs) (h':AA M' w T' s2 v' ys) (hn:T≠T') (hf:Fp (fun k=>v'.ownBlock=some k) w w'):AA M w' T s1 v xs :=
 ⟨Bp h.own hf (fun k hk e=>h.apart h' hn hk e),h.blk,h.len⟩
theorem DtB.newSubs (h:DtB M w a s pv tv sv ts) {l:List Sub} (hf:Fp (fun k=>sv.ownBlock=some k) w w') (ho:AA (Gn M w) w' 133 5 sv' (l.map BC)) (hg:w'.grownBy w'' (some a)) (ha:w''.heap[a]?=some (.cells #[.int .i64 s.mp,.int .i64 s.mt,.int .i64 s.ms,.int .i64 s.ml,pv,tv,sv'] 62 (0,0))) :
  DtB (Gn M w) w'' a (s.setSubs l) pv tv sv' ts∧Fp M w w'':=by
 have h1:=hf.heap h.ha (fun e=>h.D.hS.row_ne h.ha (by decide) e)
 refine⟨⟨ha,.inl h.Ma,⟨?_,?_,?_,h.D.eT,fun t ht=>?_⟩⟩,(hf.mono fun k hk=>h.D.hS.blk k hk).trans (Fp.of_grown hg h.Ma)⟩
 ·exact ((h.D.hP.keep h.D.hS (by decide) hf).other hg h1 (by decide)).mono fun k _ h=>.inl h
 ·exact ((h.D.hT.keep h.D.hS (by decide) hf).other hg h1 (by decide)).mono fun k _ h=>.inl h
 ·exact ho.other hg h1 (by decide)
 ·exact (((h.D.hR t ht).keep h.D.hS (by decide) hf).other hg h1 (by decide)).mono fun k _ h=>.inl h
theorem DtB.newPeople (h:DtB M w a s pv tv sv ts) {l:List Per} (hf:Fp (fun k=>pv.ownBlock=some k) w w') (ho:AA (Gn M w) w' 94 3 pv' (l.map Ds)) (hg:w'.grownBy w'' (some a)) (ha:w''.heap[a]?=some (.cells #[.int .i64 s.mp,.int .i64 s.mt,.int .i64 s.ms,.int .i64 s.ml,pv',tv,sv] 62 (0,0))) :
  DtB (Gn M w) w'' a (s.setPeople l) pv' tv sv ts∧Fp M w w'':=by
 have h1:=hf.heap h.ha (fun e=>h.D.hP.row_ne h.ha (by decide) e)
 refine⟨⟨ha,.inl h.Ma,⟨?_,?_,?_,h.D.eT,fun t ht=>?_⟩⟩,(hf.mono fun k hk=>h.D.hP.blk k hk).trans (Fp.of_grown hg h.Ma)⟩
 ·exact ho.other hg h1 (by decide)
 ·exact ((h.D.hT.keep h.D.hP (by decide) hf).other hg h1 (by decide)).mono fun k _ h=>.inl h
 ·exact ((h.D.hS.keep h.D.hP (by decide) hf).other hg h1 (by decide)).mono fun k _ h=>.inl h
 ·exact (((h.D.hR t ht).keep h.D.hP (by decide) hf).other hg h1 (by decide)).mono fun k _ h=>.inl h
theorem DtB.newTracks (h:DtB M w a s pv tv sv ts) (hf:Fp (fun k=>tv.ownBlock=some k) w w') (ho:AA (Gn M w) w' 182 4 tv' (ts'.map trC)) (hr:∀ t∈ts',t∈ts∨AA (Gn M w) w' 110 1 t.2 (t.1.ssrcs.map DI)) (hg:w'.grownBy w'' (some a)) (ha:w''.heap[a]?=some (.cells #[.int .i64 s.mp,.int .i64 s.mt,.int .i64 s.ms,.int .i64 s.ml,pv,tv',sv] 62 (0,0))) :
  DtB (Gn M w) w'' a (s.setTracks (ts'.map (·.1))) pv tv' sv ts'∧Fp M w w'':=by
 have h1:=hf.heap h.ha (fun e=>h.D.hT.row_ne h.ha (by decide) e)
 refine⟨⟨ha,.inl h.Ma,⟨?_,?_,?_,rfl,fun t ht=>?_⟩⟩,(hf.mono fun k hk=>h.D.hT.blk k hk).trans (Fp.of_grown hg h.Ma)⟩
 ·exact ((h.D.hP.keep h.D.hT (by decide) hf).other hg h1 (by decide)).mono fun k _ h=>.inl h
 ·exact ho.other hg h1 (by decide)
 ·exact ((h.D.hS.keep h.D.hT (by decide) hf).other hg h1 (by decide)).mono fun k _ h=>.inl h
 ·rcases hr t ht with ht | ht
  ·exact (((h.D.hR t ht).keep h.D.hT (by decide) hf).other hg h1 (by decide)).mono fun k _ h=>.inl h
  ·exact ht.other hg h1 (by decide)
theorem map_erase {α β:Type} (f:α→β) (l:List α) (i:Nat):(l.eraseIdx i).map f=(l.map f).eraseIdx i:=by
 rw[List.eraseIdx_eq_take_drop_succ,List.eraseIdx_eq_take_drop_succ,List.map_append,List.map_take,List.map_drop]
theorem Ef (h:DtB M w a s pv tv sv ts) (ok:s.Ok) (fw:s.Few) (q:Rq) (qs:Value) (hq1:qs.oneCell'=true):Calls Tryz.prog 168 #[.pointer (some ⟨a,0,none⟩),rqV q qs] w (DoP M w a (s.unsubscribe q)):=by
 obtain⟨l1,l2,l3⟩:=lens ok fw
 have HL:=Aa ((Le.refl w).alloc (.cells #[.int .i64 q.kind,.int .i64 q.who,.int .i64 q.room,.int .i64 q.rights,.int .i64 q.track,qs,.int .i64 q.layer,.int .i64 q.tid] 31))
 have HX:=Aa (heap_alloc_new w (.cells #[.int .i64 q.kind,.int .i64 q.who,.int .i64 q.room,.int .i64 q.rights,.int .i64 q.track,qs,.int .i64 q.layer,.int .i64 q.tid] 31))
 have H:=Aa (h.le HL.out)
 have H0:=Aa h
 obtain⟨R,hR⟩:∃ R,R=DoP M w a (s.unsubscribe q):=⟨_,rfl⟩
 rw[← hR]
 have HR:=Aa hR
 clear hR h
 show Calls Tryz.prog 168 #[.pointer (some ⟨a,0,none⟩),.agg #[.int .i64 q.kind,.int .i64 q.who,.int .i64 q.room,.int .i64 q.rights,.int .i64 q.track,qs,.int .i64 q.layer,.int .i64 q.tid]] w R
 go_enter Tryz.func168,Tryz.ntmps168
 go_upto_region 1 with fail
 generalize w.alloc (.cells #[.int .i64 q.kind,.int .i64 q.who,.int .i64 q.room,.int .i64 q.rights,.int .i64 q.track,qs,.int .i64 q.layer,.int .i64 q.tid] 31)=w1 at *
 generalize w.heap.size=gx at *
 have HD:=Aa (H.out.le (Le.refl w1).drew)
 have HXD:=Aa ((Le.refl w1).drew.heap HX.out)
 refine' Aj 12 8 8 Le (Is _::Is _::Is _::Is _::Is _::Is _::Is _::Is _::Is _::Is _::Is _::Is _::[]) ([]::[0]::[1]::[]::[3]::[]::[5]::[2,4,6]::[7]::[8]::[8]::[9]::[]) (by kernel_rfl) (by kernel_rfl) (by rfl) (by kernel_rfl) (by kernel_rfl) Le.refl (fun _ _ _ h h'=>h.trans h') ⟨St.is,St.is,St.is,St.is,St.is,St.is,St.is,St.is,St.is,St.is,St.is,St.is,trivial⟩ ?m1
 case m1 =>
  simp (maxSteps:=100000000) only [AR,Bv,AK,AC,An,AD,Am,Au,Act.put,List.setIfInBounds_toArray,List.set_cons_succ,List.set_cons_zero,List.getElem?_cons_zero,List.getElem?_cons_succ,List.take_succ_cons,List.take_zero,List.drop_succ_cons,List.drop_zero,List.cons_append,List.nil_append,List.length_cons,List.length_nil,Nat.reduceAdd]
  intro x0 x1 x2 x3 x4 x5 x6 x7 x8 x9 x10 x11
  refine⟨⟨?_,?_,?_,?_,?_,?_,?_,?_,?_,?_,?_,?_,trivial⟩,?_⟩
  ·intro wo hw KQ hK;go_simp;exact hK _ _ .r .m
  ·intro wo hw h0 KQ hK;cases h0;go_simp;exact hK _ _ .r .m
  ·intro wo hw h1 KQ hK;cases h1;refine cast (if_pos (show Region.wanted _ _=true from rfl)).symm ?_;have hz:=(hw.heap HD.out.ha);refine Av 62 (.tmp 9) rfl (cs:=[.int .i64 s.mp,.int .i64 s.mt,.int .i64 s.ms,.int .i64 s.ml,pv,tv,sv]) _ rfl Tryz.underlying62 rfl (by kernel_rfl) hz ?_;exact hK _ _ .r .m
  ·intro wo hw KQ hK;go_simp;exact hK _ _ .r .m
  ·intro wo hw h3 KQ hK;cases h3;have kk:=Af (hw.heap HXD.out) 1 (.int .i64 q.who) rfl wo (Le.refl _);go_simp;exact hK _ _ .r .m
  ·intro wo hw KQ hK;go_simp;exact hK _ _ .r .m
  ·intro wo hw h5 KQ hK;cases h5;have kk:=Af (hw.heap HXD.out) 4 (.int .i64 q.track) rfl wo (Le.refl _);go_simp;exact hK _ _ .r .m
  ·intro wo hw h2 h4 h6 KQ hK;cases h2;cases h4;cases h6;go_simp;refine (D2 (HD.out.D.le hw) ok fw _ _).mono ?_;rintro e w' ⟨rfl,hb⟩;exact hK _ _ (Le.mk hb) (Is.mk _ _)
  ·intro wo hw h7 KQ hK;cases h7;go_simp;exact hK _ _ .r .m
  ·intro wo hw h8 KQ hK;cases h8;go_simp;exact hK _ _ .r .m
  ·intro wo hw h8 KQ hK;cases h8;go_simp;exact hK _ _ .r .m
  ·intro wo hw h9 KQ hK;cases h9;go_simp;exact hK _ _ .r .m
  ·intro wz hz h0 h1 h2 h3 h4 h5 h6 h7 h8 h9 h10 h11;cases h0;cases h1;cases h2;cases h3;cases h4;cases h5;cases h6;cases h7;cases h8;cases h9;cases h10;cases h11;skip
   have HLZ:=Aa ((HL.out.trans (Le.refl w1).drew).trans hz)
   have HZ:=Aa (H0.out.le HLZ.out)
   clear HD HXD HX H HL
   cases hh:s.hasS q.who q.track
   ·have HE:=Aa (show s.unsubscribe q=(s,21) by rw[DS.unsubscribe,hh];rfl)
    clear hh
    go_wp2_with fail
    rw[HR.out,HE.out]
    exact DoP.same H0.out HLZ.out rfl
   ·obtain⟨hlt,hsw,hst⟩:=D9 ok hh
    have HE:=Aa (show s.unsubscribe q=(s.setSubs (s.subs.eraseIdx (s.sAt q.who q.track)),0) by rw[DS.unsubscribe,hh];rfl)
    have HDE:=Aa (dele_sub HZ.out.D.hS (by rw[List.length_map];omega) (s.sAt q.who q.track) (by rw[List.length_map];exact hlt) (Cy s))
    clear hh hsw hst
    generalize s.sAt q.who q.track=i at *
    have y0:wz.cell? ⟨a,6,none⟩=some sv:=Ae HZ.out.ha 6
    have q1:IntKind.i64.wrap ((i:Int)+1)=(i:Int)+1:=IntWalk.i64_in _ (by omega)
    go_wp2_with fail
    refine HDE.out.mono ?_
    rintro e w3 ⟨sv',rfl,ho,hf⟩
    have HO3:=Aa ho
    have HF3:=Aa hf
    have HA3:=Aa (hf.heap HZ.out.ha (fun e=>HZ.out.D.hS.row_ne HZ.out.ha (by decide) e))
    have H1C:=Aa (AF ho)
    clear ho hf HDE y0
    go_wp2_with (refine Ao rfl 60 (.tmp 30) (.tmp 28) rfl [.int .i64 s.mp,.int .i64 s.mt,.int .i64 s.ms,.int .i64 s.ml,pv,tv] (v:=sv') (old:=sv) (post:=[]) rfl rfl (by kernel_rfl) H1C.out HA3.out ?_;intro w5 h5 hg5;have H5:=Aa h5;have HG5:=Aa hg5;clear h5 hg5)
    rw[HR.out,HE.out]
    obtain⟨h8,h9⟩:=HZ.out.newSubs (l:=s.subs.eraseIdx i) HF3.out (by rw[map_erase];exact HO3.out.mono fun k _ h=>.inl h) HG5.out H5.out
    exact⟨rfl,⟨_,_,_,_,h8.mono fun k _ hk=>hk.elim .inl fun hk=>.inr (Nat.le_trans HLZ.out.size hk)⟩,(Fp.of_le HLZ.out).trans h9⟩
end
end Go.Proofs.YtmcndlofaanjiaaGreat
