/- Texts of one claim, laid together: Ob2 TbK Bsf Del Del2 -/
import Derived.MapViews
import Derived.DeepKeys4
import Derived.Test.YtmcndlofaanjiaaGreatJo08
import Derived.Test.YtmcndlofaanjiaaGreatJo04
import Derived.Test.YtmcndlofaanjiaaGreatJo06
/- Rows of one's own: one element is changed;an element stands at its place. -/
namespace Go.Proofs.YtmcndlofaanjiaaGreat
open Go.RowKit
set_option linter.unusedVariables false
set_option maxRecDepth 100000
set_option maxHeartbeats 8000000
section
variable {M:Nat→Prop} {w w':World} {T:TypeId} {s:Nat} {v:Value} {xs:List (List Value)}
theorem AA.cut (h:AA M w T s v xs) {i:Nat} {x:List Value} (hi:xs[i]?=some x):∃ g cap pre post,v=.slice (some ⟨g,0,none⟩) xs.length cap∧M g∧(pre:List Value).length=i*s∧w.heap[g]?=some (.cells (pre++(x++post)).toArray T (0,0)):=by
 have hx:=h.len x (List.mem_of_getElem? hi)
 rcases h.val with ⟨_,e⟩ | ⟨g,cap,cur,hv,hM,hg,hc,hm,hs,hr⟩
 ·subst e;simp at hi
 ·have hlt:i<xs.length:=(List.getElem?_eq_some_iff.1 hi).1
  obtain⟨pre,old,post,e,h1,h2⟩:=Ec (cur:=cur.toList) (s:=s) (p:=i) (n:=cap) (by simpa using hs) (by omega)
  refine⟨g,cap,pre,post,hv,hM,h1,?_⟩
  have ho:old=x:=by
   refine List.ext_getElem? fun j=>?_
   rcases Nat.lt_or_ge j s with hj | hj
   ·have:=hr i x hi j hj
    rw[← this,e,List.append_assoc,List.getElem?_append_right (by omega),List.getElem?_append_left (by omega),h1]
    congr 1
    omega
   ·rw[List.getElem?_eq_none (by omega),List.getElem?_eq_none (by omega)]
  rw[← ho,← List.append_assoc,← e,Array.toArray_toList]
  exact hg
theorem AA.put {g i cap:Nat} {x y pre post:List Value} (h:AA M w T s (.slice (some ⟨g,0,none⟩) xs.length cap) xs) (hi:xs[i]?=some x) (hp:pre.length=i*s) (h0:w.heap[g]?=some (.cells (pre++(x++post)).toArray T (0,0))) (hy:y.length=s)
  (h1:w'.heap[g]?=some (.cells (pre++(y++post)).toArray T (0,0))):AA M w' T s (.slice (some ⟨g,0,none⟩) xs.length cap) (xs.set i y):=by
 have hx:=h.len x (List.mem_of_getElem? hi)
 have hlt:i<xs.length:=(List.getElem?_eq_some_iff.1 hi).1
 rcases h.val with ⟨e,_⟩ | ⟨g',cap',cur,hv,hM,hg,hc,hm,hs,hr⟩
 ·cases e
 ·injection hv with e1 e2 e3
  injection e1 with e1
  injection e1 with e1
  subst e1 e3
  rw[h0] at hg
  injection hg with hg
  injection hg with hg
  have hcur:cur.toList=pre++x++post:=by rw[← hg];simp
  rw[hcur] at hr
  have hr2:=hr.set hp hx hy
  have hl2:∀ z∈xs.set i y,z.length=s:=fun z hz=>by
   rcases List.mem_or_eq_of_mem_set hz with hz | hz
   ·exact h.len z hz
   ·rw[hz];exact hy
  have hsz:(pre++y++post).length=cap*s:=by
   rw[← hs,← Array.length_toList,hcur];simp[hx,hy]
  have htk:=hr2.take hl2 (by rw[List.length_set,hsz];exact Nat.mul_le_mul_right _ hc)
  refine⟨⟨?_,.inr ⟨g,cap,(pre++(y++post)).toArray,?_,Nat.zero_le _,h1,?_,hm,?_,?_⟩⟩,fun k hk=>by simp only[Value.ownBlock,Option.some.injEq] at hk;rw[← hk];exact hM,hl2⟩
  ·exact AJ hl2
  ·rw[List.length_set]
  ·rw[List.length_set];exact hc
  ·rw[List.size_toArray,← List.append_assoc];exact hsz
  ·rw[← List.append_assoc];exact htk
theorem AA.of_base {base n:Nat} {ys:List (List Value)} (h:w.ownsRow base T s v n ys.flatten) (hn:n=ys.length) (hl:∀ y∈ys,y.length=s):AA (fun k=>base≤k) w T s v ys:=by
 subst hn
 refine⟨⟨h.1,?_⟩,fun k hk=>(h.lt k hk).1,hl⟩
 rcases h.2 with h1 | ⟨g,cap,cur,hv,hb,hg,r⟩
 ·exact .inl h1
 ·exact .inr ⟨g,cap,cur,hv,Nat.zero_le _,hg,r⟩
theorem Bf {ys:List (List Value)} (h:∀ y∈ys,∀ u∈y,u.oneCell'=true):∀ u∈ys.flatten,u.oneCell'=true:=fun u hu=>by
 obtain⟨y,hy,hu⟩:=List.mem_flatten.1 hu
 exact h y hy u hu
end
theorem CL {a:Int} (h1:-9223372036854775808≤a) (h2:a≤9223372036854775807):(Lit.int .i64 a).wf=true:=by
 simp[Lit.wf,IntKind.min,IntKind.max,IntKind.signed,IntKind.bits]
 omega
theorem key32 {k:Nat} (hk:k<4294967296):keyOf Tryz.prog 110 (.int .u32 k)=some (.int .u32 k):=Maps.keyOf_int_mk Tryz.underlying110 (by simp[Lit.wf,IntKind.min,IntKind.max,IntKind.signed,IntKind.bits];omega)
theorem keyed32:Maps.Keyed Tryz.prog 110:=Maps.int_keyed Tryz.underlying110
theorem Tryz.laidOutB:laidOutB Tryz.prog=true:=by kernel_rfl
theorem Ft:WideMaps.KeyLaw Tryz.prog 413:=deep_law_laid Tryz.laidOutB (m:=2) (by omega) (of_decide_eq_true (by kernel_rfl)) (by kernel_rfl) (by rw[Tryz.underlying413])
theorem lawRef:WideMaps.KeyLaw Tryz.prog 135:=deep_law_laid Tryz.laidOutB (m:=2) (by omega) (of_decide_eq_true (by kernel_rfl)) (by kernel_rfl) (by rw[Tryz.underlying135])
theorem Ga:Tryz.prog.cellsOf 413=2:=by kernel_rfl
theorem GR:Tryz.prog.cellsOf 135=2:=by kernel_rfl
theorem Fk:Tryz.prog.cellsOf 3=1:=by kernel_rfl
theorem cellsU32:Tryz.prog.cellsOf 110=1:=by kernel_rfl
theorem keyPair {a b:Int} (ha:(Lit.int .i64 a).wf=true) (hb:(Lit.int .i64 b).wf=true):∃ lit,keyOf Tryz.prog 413 (.agg #[.int .i64 a,.int .i64 b])=some lit:=by
 have hd:DataW.Trod (H:=Nat) (fun _=>0) Tryz.prog (World.settled Tryz.prog default) 0 (fun _=>true) true 413 (.agg #[.int .i64 a,.int .i64 b]) (.agg [.lit (.int .i64 a),.lit (.int .i64 b)]) [] :=
  ⟨2,by simp[DataW.trod,Value.cells,Tryz.underlying413,Tryz.underlying3,Ga,Fk,ha,hb]⟩
 exact⟨_,(keyOf_asKey (by kernel_rfl) (by rw[Tryz.underlying413]) (by simp[Value.formed,Tryz.underlying413,Ga]) hd).1⟩
theorem keyRef {a:Int} {b:Nat} (ha:(Lit.int .i64 a).wf=true) (hb:b<4294967296):∃ lit,keyOf Tryz.prog 135 (.agg #[.int .i64 a,.int .u32 b])=some lit:=by
 have hb':(Lit.int .u32 b).wf=true:=by simp[Lit.wf,IntKind.min,IntKind.max,IntKind.signed,IntKind.bits];omega
 have hd:DataW.Trod (H:=Nat) (fun _=>0) Tryz.prog (World.settled Tryz.prog default) 0 (fun _=>true) true 135 (.agg #[.int .i64 a,.int .u32 b]) (.agg [.lit (.int .i64 a),.lit (.int .u32 b)]) [] :=
  ⟨2,by simp[DataW.trod,Value.cells,Tryz.underlying135,Tryz.underlying3,Tryz.underlying110,GR,Fk,cellsU32,ha,hb']⟩
 exact⟨_,(keyOf_asKey (by kernel_rfl) (by rw[Tryz.underlying135]) (by simp[Value.formed,Tryz.underlying135,GR]) hd).1⟩
def bsF (cf:List Value→Int) (xs:List (List Value)) (p:Nat):Bool:=match xs[p]? with | some x=>decide (cf x=0) | none=>false
theorem bs_per {M:Nat→Prop} {w:World} {v:Value} {xs:List (List Value)} (hO:AA M w 94 3 v xs) (hn:xs.length≤1000000) (tv:Value) (g:Nat) (cb:Array Value) (eg:∀ args w,(callFunc g args).run Tryz.prog w=.ok (.enter g args) w) (cf:List Value→Int)
  (hcall:∀ (x:List Value) (W:World),x∈xs→Le w W→Calls Tryz.prog g (#[.agg x.toArray,tv]++cb) W (Ax W (.int .i64 (cf x)))) (p:Nat) (hp:p≤xs.length) (hlt:∀ (i:Nat) (x:List Value),xs[i]?=some x→(i<p↔cf x<0)) :
  Calls Tryz.prog 215 #[v,tv,.func (.func g) #[] cb] w (Ax w (.tuple #[.int .i64 p,.bool (bsF cf xs p)])):=by
 obtain⟨A,cap,rfl,_,_,hcap⟩:=hO.cells
 have HO:=Aa hO
 have HC:=Aa hcall
 have HLT:=Aa hlt
 obtain⟨R,hR⟩:∃ R,R=Ax w (.tuple #[.int .i64 p,.bool (bsF cf xs p)]):=⟨_,rfl⟩
 rw[← hR]
 have HR:=Aa hR
 clear hR hO hcall hlt
 go_enter Tryz.func215,Tryz.ntmps215
 go_wp2_with fail
 go_loopw [9,10,11] (fun s9 s10 _ wr=>∃ i j:Nat,i≤p∧p≤j∧j≤xs.length∧s9=.int .i64 i∧s10=.int .i64 j∧Hd (Le w wr)) (fun s9 s10 _ _=>(intOf s10).toNat - (intOf s9).toNat)
 case atStart=>exact⟨0,xs.length,Nat.zero_le _,hp,Nat.le_refl _,rfl,rfl,Aa (Le.refl _)⟩
 case round =>
  obtain⟨i,j,hi,hj,hjn,rfl,rfl,HLE⟩:=hrel
  rcases Nat.lt_or_ge i j with hij | hij
  ·have hijI:(i:Int)<(j:Int):=by omega
   have q1:IntKind.i64.wrap ((i:Int)+j)=((i+j:Nat):Int):=by rw[IntWalk.i64_in _ (by omega)];simp
   have q2:IntKind.u64.wrap ((i+j:Nat):Int)=((i+j:Nat):Int):=IntWalk.u64_in _ (by omega)
   have q3:IntKind.u64.wrap (((i+j) / 2:Nat):Int)=(((i+j) / 2:Nat):Int):=IntWalk.u64_in _ (by omega)
   have q4:IntKind.i64.wrap (((i+j) / 2:Nat):Int)=(((i+j) / 2:Nat):Int):=IntWalk.i64_in _ (by omega)
   obtain⟨h,hh,hih,hhj⟩:∃ h:Nat,((i:Int)+j) / 2=(h:Int)∧i≤h∧h<j:=⟨(i+j) / 2,by omega,by omega,by omega⟩
   have hhn:h<xs.length:=by omega
   have hhI:(h:Int)<(xs.length:Int):=by omega
   have e:=List.getElem?_eq_getElem hhn
   have HX:=Aa e
   have HM:=Aa (List.mem_of_getElem? e)
   obtain⟨gr,hA,hrg⟩:=(HO.out.le HLE.out).elem e
   subst hA
   have RG:=Aa hrg
   have HLN:=Aa (HO.out.len _ HM.out)
   have HCC:=Aa (HC.out _ wr HM.out HLE.out)
   have HL1:=Aa (HLT.out h _ e)
   have qh:IntKind.i64.wrap ((h:Int)+1)=((h+1:Nat):Int):=by rw[IntWalk.i64_in _ (by omega)];simp
   clear e hrg
   generalize xs[h]=x at *
   go_upto_region 5 with fail
   clear q1 q2 q3 q4 hh
   go_wp2_with (refine wpList_load_mid rfl 94 (.tmp 27) rfl gr (h*3) rfl x _ RG.out Tryz.underlying94 rfl (by rw[HLN.out];kernel_rfl) ?_)
   refine HCC.out.mono ?_
   rintro e w3 ⟨rfl,hb3⟩
   have HL3:=Aa (HLE.out.trans (Le.mk hb3))
   clear hb3 HCC
   by_cases hc:cf x<0
   ·have hhp:=HL1.out.2 hc
    go_wp2_with fail
    exact⟨⟨h+1,j,by omega,hj,hjn,rfl,rfl,HL3⟩,by simp only[intOf];omega⟩
   ·have hhp:¬ h<p:=fun h1=>hc (HL1.out.1 h1)
    go_wp2_with fail
    exact⟨⟨i,h,hi,by omega,by omega,rfl,rfl,HL3⟩,by simp only[intOf];omega⟩
  ·have hijI:¬ (i:Int)<(j:Int):=by omega
   obtain rfl:i=p:=by omega
   rcases Nat.lt_or_ge i xs.length with hlt | hge
   ·have hltI:(i:Int)<(xs.length:Int):=by omega
    have e:=List.getElem?_eq_getElem hlt
    have HX:=Aa e
    have HM:=Aa (List.mem_of_getElem? e)
    obtain⟨gr,hA,hrg⟩:=(HO.out.le HLE.out).elem e
    subst hA
    have RG:=Aa hrg
    have HLN:=Aa (HO.out.len _ HM.out)
    have HCC:=Aa (HC.out _ wr HM.out HLE.out)
    clear e hrg
    generalize xs[i]=x at *
    have HBS:=Aa (show bsF cf xs i=decide (cf x=0) by rw[bsF,HX.out])
    go_wp2_with (refine ES rfl 94 (.tmp 43) rfl gr (i*3) rfl x _ RG.out Tryz.underlying94 rfl (by rw[HLN.out];kernel_rfl) ?_)
    refine HCC.out.mono ?_
    rintro e w3 ⟨rfl,hb3⟩
    have HL3:=Aa (HLE.out.trans (Le.mk hb3))
    clear hb3 HCC
    have hq:((cf x:Int)==0)=bsF cf xs i:=by
     rw[HBS.out]
     by_cases hc:cf x=0
     ·rw[hc];rfl
     ·rw[decide_eq_false hc,beq_eq_false_iff_ne];exact hc
    have HQ:=Aa hq
    clear hq
    go_wp2_with fail
    rw[HR.out,← HQ.out]
    exact⟨rfl,HL3.out.out⟩
   ·have hltI:¬ (i:Int)<(xs.length:Int):=by omega
    have HBS:=Aa (show bsF cf xs i=false by rw[bsF,List.getElem?_eq_none hge])
    go_wp2_with fail
    rw[HR.out]
    exact⟨by rw[HBS.out],HLE.out.out⟩
theorem bs_trk {M:Nat→Prop} {w:World} {v:Value} {xs:List (List Value)} (hO:AA M w 182 4 v xs) (hn:xs.length≤1000000) (tv:Value) (g:Nat) (cb:Array Value) (eg:∀ args w,(callFunc g args).run Tryz.prog w=.ok (.enter g args) w) (cf:List Value→Int)
  (hcall:∀ (x:List Value) (W:World),x∈xs→Le w W→Calls Tryz.prog g (#[.agg x.toArray,tv]++cb) W (Ax W (.int .i64 (cf x)))) (p:Nat) (hp:p≤xs.length) (hlt:∀ (i:Nat) (x:List Value),xs[i]?=some x→(i<p↔cf x<0)) :
  Calls Tryz.prog 232 #[v,tv,.func (.func g) #[] cb] w (Ax w (.tuple #[.int .i64 p,.bool (bsF cf xs p)])):=by
 obtain⟨A,cap,rfl,_,_,hcap⟩:=hO.cells
 have HO:=Aa hO
 have HC:=Aa hcall
 have HLT:=Aa hlt
 obtain⟨R,hR⟩:∃ R,R=Ax w (.tuple #[.int .i64 p,.bool (bsF cf xs p)]):=⟨_,rfl⟩
 rw[← hR]
 have HR:=Aa hR
 clear hR hO hcall hlt
 go_enter Tryz.func232,Tryz.ntmps232
 go_wp2_with fail
 go_loopw [9,10,11] (fun s9 s10 _ wr=>∃ i j:Nat,i≤p∧p≤j∧j≤xs.length∧s9=.int .i64 i∧s10=.int .i64 j∧Hd (Le w wr)) (fun s9 s10 _ _=>(intOf s10).toNat - (intOf s9).toNat)
 case atStart=>exact⟨0,xs.length,Nat.zero_le _,hp,Nat.le_refl _,rfl,rfl,Aa (Le.refl _)⟩
 case round =>
  obtain⟨i,j,hi,hj,hjn,rfl,rfl,HLE⟩:=hrel
  rcases Nat.lt_or_ge i j with hij | hij
  ·have hijI:(i:Int)<(j:Int):=by omega
   have q1:IntKind.i64.wrap ((i:Int)+j)=((i+j:Nat):Int):=by rw[IntWalk.i64_in _ (by omega)];simp
   have q2:IntKind.u64.wrap ((i+j:Nat):Int)=((i+j:Nat):Int):=IntWalk.u64_in _ (by omega)
   have q3:IntKind.u64.wrap (((i+j) / 2:Nat):Int)=(((i+j) / 2:Nat):Int):=IntWalk.u64_in _ (by omega)
   have q4:IntKind.i64.wrap (((i+j) / 2:Nat):Int)=(((i+j) / 2:Nat):Int):=IntWalk.i64_in _ (by omega)
   obtain⟨h,hh,hih,hhj⟩:∃ h:Nat,((i:Int)+j) / 2=(h:Int)∧i≤h∧h<j:=⟨(i+j) / 2,by omega,by omega,by omega⟩
   have hhn:h<xs.length:=by omega
   have hhI:(h:Int)<(xs.length:Int):=by omega
   have e:=List.getElem?_eq_getElem hhn
   have HX:=Aa e
   have HM:=Aa (List.mem_of_getElem? e)
   obtain⟨gr,hA,hrg⟩:=(HO.out.le HLE.out).elem e
   subst hA
   have RG:=Aa hrg
   have HLN:=Aa (HO.out.len _ HM.out)
   have HCC:=Aa (HC.out _ wr HM.out HLE.out)
   have HL1:=Aa (HLT.out h _ e)
   have qh:IntKind.i64.wrap ((h:Int)+1)=((h+1:Nat):Int):=by rw[IntWalk.i64_in _ (by omega)];simp
   clear e hrg
   generalize xs[h]=x at *
   go_upto_region 5 with fail
   clear q1 q2 q3 q4 hh
   go_wp2_with (refine wpList_load_mid rfl 182 (.tmp 27) rfl gr (h*4) rfl x _ RG.out Tryz.underlying182 rfl (by rw[HLN.out];kernel_rfl) ?_)
   refine HCC.out.mono ?_
   rintro e w3 ⟨rfl,hb3⟩
   have HL3:=Aa (HLE.out.trans (Le.mk hb3))
   clear hb3 HCC
   by_cases hc:cf x<0
   ·have hhp:=HL1.out.2 hc
    go_wp2_with fail
    exact⟨⟨h+1,j,by omega,hj,hjn,rfl,rfl,HL3⟩,by simp only[intOf];omega⟩
   ·have hhp:¬ h<p:=fun h1=>hc (HL1.out.1 h1)
    go_wp2_with fail
    exact⟨⟨i,h,hi,by omega,by omega,rfl,rfl,HL3⟩,by simp only[intOf];omega⟩
  ·have hijI:¬ (i:Int)<(j:Int):=by omega
   obtain rfl:i=p:=by omega
   rcases Nat.lt_or_ge i xs.length with hlt | hge
   ·have hltI:(i:Int)<(xs.length:Int):=by omega
    have e:=List.getElem?_eq_getElem hlt
    have HX:=Aa e
    have HM:=Aa (List.mem_of_getElem? e)
    obtain⟨gr,hA,hrg⟩:=(HO.out.le HLE.out).elem e
    subst hA
    have RG:=Aa hrg
    have HLN:=Aa (HO.out.len _ HM.out)
    have HCC:=Aa (HC.out _ wr HM.out HLE.out)
    clear e hrg
    generalize xs[i]=x at *
    have HBS:=Aa (show bsF cf xs i=decide (cf x=0) by rw[bsF,HX.out])
    go_wp2_with (refine ES rfl 182 (.tmp 43) rfl gr (i*4) rfl x _ RG.out Tryz.underlying182 rfl (by rw[HLN.out];kernel_rfl) ?_)
    refine HCC.out.mono ?_
    rintro e w3 ⟨rfl,hb3⟩
    have HL3:=Aa (HLE.out.trans (Le.mk hb3))
    clear hb3 HCC
    have hq:((cf x:Int)==0)=bsF cf xs i:=by
     rw[HBS.out]
     by_cases hc:cf x=0
     ·rw[hc];rfl
     ·rw[decide_eq_false hc,beq_eq_false_iff_ne];exact hc
    have HQ:=Aa hq
    clear hq
    go_wp2_with fail
    rw[HR.out,← HQ.out]
    exact⟨rfl,HL3.out.out⟩
   ·have hltI:¬ (i:Int)<(xs.length:Int):=by omega
    have HBS:=Aa (show bsF cf xs i=false by rw[bsF,List.getElem?_eq_none hge])
    go_wp2_with fail
    rw[HR.out]
    exact⟨by rw[HBS.out],HLE.out.out⟩
theorem bs_sub {M:Nat→Prop} {w:World} {v:Value} {xs:List (List Value)} (hO:AA M w 133 5 v xs) (hn:xs.length≤1000000) (b0 b1 b2 b3 b4:Value) (g:Nat) (cb:Array Value) (eg:∀ args w,(callFunc g args).run Tryz.prog w=.ok (.enter g args) w) (cf:List Value→Int)
  (hcall:∀ (x:List Value) (W:World),x∈xs→Le w W→Calls Tryz.prog g (#[.agg x.toArray,.agg #[b0,b1,b2,b3,b4]]++cb) W (Ax W (.int .i64 (cf x)))) (p:Nat) (hp:p≤xs.length) (hlt:∀ (i:Nat) (x:List Value),xs[i]?=some x→(i<p↔cf x<0)) :
  Calls Tryz.prog 218 #[v,.agg #[b0,b1,b2,b3,b4],.func (.func g) #[] cb] w (Ax w (.tuple #[.int .i64 p,.bool (bsF cf xs p)])):=by
 obtain⟨A,cap,rfl,_,_,hcap⟩:=hO.cells
 have HO:=Aa hO
 have HC:=Aa hcall
 have HLT:=Aa hlt
 obtain⟨R,hR⟩:∃ R,R=Ax w (.tuple #[.int .i64 p,.bool (bsF cf xs p)]):=⟨_,rfl⟩
 rw[← hR]
 have HR:=Aa hR
 have HL0:=Aa ((Le.refl w).alloc (.cells #[b0,b1,b2,b3,b4] 133))
 have HX0:=Aa (heap_alloc_new w (.cells #[b0,b1,b2,b3,b4] 133))
 clear hR hO hcall hlt
 go_enter Tryz.func218,Tryz.ntmps218
 go_wp2_with fail
 generalize w.alloc (.cells #[b0,b1,b2,b3,b4] 133)=w1 at *
 generalize w.heap.size=gx at *
 go_loopw [9,10,11] (fun s9 s10 _ wr=>∃ i j:Nat,i≤p∧p≤j∧j≤xs.length∧s9=.int .i64 i∧s10=.int .i64 j∧Hd (Le w1 wr)) (fun s9 s10 _ _=>(intOf s10).toNat - (intOf s9).toNat)
 case atStart=>exact⟨0,xs.length,Nat.zero_le _,hp,Nat.le_refl _,rfl,rfl,Aa (Le.refl _)⟩
 case round =>
  obtain⟨i,j,hi,hj,hjn,rfl,rfl,HLE⟩:=hrel
  have HLD:=Aa (HLE.out.trans (Le.refl wr).drew)
  have HXD:=Aa (HLD.out.heap HX0.out)
  rcases Nat.lt_or_ge i j with hij | hij
  ·have hijI:(i:Int)<(j:Int):=by omega
   have q1:IntKind.i64.wrap ((i:Int)+j)=((i+j:Nat):Int):=by rw[IntWalk.i64_in _ (by omega)];simp
   have q2:IntKind.u64.wrap ((i+j:Nat):Int)=((i+j:Nat):Int):=IntWalk.u64_in _ (by omega)
   have q3:IntKind.u64.wrap (((i+j) / 2:Nat):Int)=(((i+j) / 2:Nat):Int):=IntWalk.u64_in _ (by omega)
   have q4:IntKind.i64.wrap (((i+j) / 2:Nat):Int)=(((i+j) / 2:Nat):Int):=IntWalk.i64_in _ (by omega)
   obtain⟨h,hh,hih,hhj⟩:∃ h:Nat,((i:Int)+j) / 2=(h:Int)∧i≤h∧h<j:=⟨(i+j) / 2,by omega,by omega,by omega⟩
   have hhn:h<xs.length:=by omega
   have hhI:(h:Int)<(xs.length:Int):=by omega
   have e:=List.getElem?_eq_getElem hhn
   have HM:=Aa (List.mem_of_getElem? e)
   obtain⟨gr,hA,hrg⟩:=(HO.out.le (HL0.out.trans HLD.out)).elem e
   subst hA
   have RG:=Aa hrg
   have HLN:=Aa (HO.out.len _ HM.out)
   have HCC:=Aa (fun W (hW:Le wr.drew W)=>HC.out _ W HM.out ((HL0.out.trans HLD.out).trans hW))
   have HL1:=Aa (HLT.out h _ e)
   have qh:IntKind.i64.wrap ((h:Int)+1)=((h+1:Nat):Int):=by rw[IntWalk.i64_in _ (by omega)];simp
   clear e hrg
   generalize xs[h]=x at *
   go_upto_region 5 with fail
   clear q1 q2 q3 q4 hh
   by_cases hc:cf x<0
   ·have hhp:=HL1.out.2 hc
    refine' Bi 8 24 Le (Is _::Is _::Is _::Is _::Is _::Is _::Is _::Is _::[]) ([]::[]::[]::[1,2]::[3]::[]::[0,4,5]::[6]::[]) (by kernel_rfl) (by kernel_rfl) (by rfl) (by kernel_rfl) Le.refl (fun _ _ _ h h'=>h.trans h') ⟨St.is,St.is,St.is,St.is,St.is,St.is,St.is,St.is,trivial⟩ ?m5
    case m5 =>
     simp (maxSteps:=100000000) only [AR,Bv,AK,AC,An,AD,Am,Au,List.set_cons_succ,List.set_cons_zero,List.getElem?_cons_zero,List.getElem?_cons_succ,List.take_succ_cons,List.take_zero,List.drop_succ_cons,List.drop_zero,List.cons_append,List.nil_append,List.length_cons,List.length_nil,Nat.reduceAdd]
     intro x0 x1 x2 x3 x4 x5 x6 x7
     refine⟨⟨?_,?_,?_,?_,?_,?_,?_,?_,trivial⟩,?_⟩
     ·intro wo hw KQ hK;go_simp;exact hK _ _ .r .m
     ·intro wo hw KQ hK;go_simp;exact hK _ _ .r .m
     ·intro wo hw KQ hK;go_simp;exact hK _ _ .r .m
     ·intro wo hw h1 h2 KQ hK;cases h1;cases h2;go_simp;exact hK _ _ .r .m
     ·intro wo hw h3 KQ hK;cases h3;refine cast (if_pos (show Region.wanted _ _=true from rfl)).symm ?_;refine wp_load_mid 133 (.tmp 27) rfl gr (h*5) rfl x _ (fun j u hj=>hw.cell (RG.out j u hj)) Tryz.underlying133 rfl (by rw[HLN.out];kernel_rfl) ?_;exact hK _ _ .r .m
     ·intro wo hw KQ hK;refine cast (if_pos (show Region.wanted _ _=true from rfl)).symm ?_;have hz:=(hw.heap HXD.out);refine Av 133 (.tmp 4) rfl (cs:=[b0,b1,b2,b3,b4]) _ rfl Tryz.underlying133 rfl (by kernel_rfl) hz ?_;exact hK _ _ .r .m
     ·intro wo hw h0 h4 h5 KQ hK;cases h0;cases h4;cases h5;go_simp;refine (HCC.out _ hw).mono ?_;rintro e w' ⟨rfl,hb⟩;exact hK _ _ (Le.mk hb) (Is.mk _ _)
     ·intro wo hw h6 KQ hK;cases h6;go_simp;exact hK _ _ .r .m
     ·intro wz hz h0 h1 h2 h3 h4 h5 h6 h7;cases h0;cases h1;cases h2;cases h3;cases h4;cases h5;cases h6;cases h7;skip
      have HL3:=Aa (HLD.out.trans hz)
      go_wp2_with fail
      exact⟨⟨h+1,j,by omega,hj,hjn,rfl,rfl,HL3⟩,by simp only[intOf];omega⟩
   ·have hhp:¬ h<p:=fun h1=>hc (HL1.out.1 h1)
    refine' Bi 8 24 Le (Is _::Is _::Is _::Is _::Is _::Is _::Is _::Is _::[]) ([]::[]::[]::[1,2]::[3]::[]::[0,4,5]::[6]::[]) (by kernel_rfl) (by kernel_rfl) (by rfl) (by kernel_rfl) Le.refl (fun _ _ _ h h'=>h.trans h') ⟨St.is,St.is,St.is,St.is,St.is,St.is,St.is,St.is,trivial⟩ ?m5
    case m5 =>
     simp (maxSteps:=100000000) only [AR,Bv,AK,AC,An,AD,Am,Au,List.set_cons_succ,List.set_cons_zero,List.getElem?_cons_zero,List.getElem?_cons_succ,List.take_succ_cons,List.take_zero,List.drop_succ_cons,List.drop_zero,List.cons_append,List.nil_append,List.length_cons,List.length_nil,Nat.reduceAdd]
     intro x0 x1 x2 x3 x4 x5 x6 x7
     refine⟨⟨?_,?_,?_,?_,?_,?_,?_,?_,trivial⟩,?_⟩
     ·intro wo hw KQ hK;go_simp;exact hK _ _ .r .m
     ·intro wo hw KQ hK;go_simp;exact hK _ _ .r .m
     ·intro wo hw KQ hK;go_simp;exact hK _ _ .r .m
     ·intro wo hw h1 h2 KQ hK;cases h1;cases h2;go_simp;exact hK _ _ .r .m
     ·intro wo hw h3 KQ hK;cases h3;refine cast (if_pos (show Region.wanted _ _=true from rfl)).symm ?_;refine wp_load_mid 133 (.tmp 27) rfl gr (h*5) rfl x _ (fun j u hj=>hw.cell (RG.out j u hj)) Tryz.underlying133 rfl (by rw[HLN.out];kernel_rfl) ?_;exact hK _ _ .r .m
     ·intro wo hw KQ hK;refine cast (if_pos (show Region.wanted _ _=true from rfl)).symm ?_;have hz:=(hw.heap HXD.out);refine Av 133 (.tmp 4) rfl (cs:=[b0,b1,b2,b3,b4]) _ rfl Tryz.underlying133 rfl (by kernel_rfl) hz ?_;exact hK _ _ .r .m
     ·intro wo hw h0 h4 h5 KQ hK;cases h0;cases h4;cases h5;go_simp;refine (HCC.out _ hw).mono ?_;rintro e w' ⟨rfl,hb⟩;exact hK _ _ (Le.mk hb) (Is.mk _ _)
     ·intro wo hw h6 KQ hK;cases h6;go_simp;exact hK _ _ .r .m
     ·intro wz hz h0 h1 h2 h3 h4 h5 h6 h7;cases h0;cases h1;cases h2;cases h3;cases h4;cases h5;cases h6;cases h7;skip
      have HL3:=Aa (HLD.out.trans hz)
      go_wp2_with fail
      exact⟨⟨i,h,hi,by omega,by omega,rfl,rfl,HL3⟩,by simp only[intOf];omega⟩
  ·have hijI:¬ (i:Int)<(j:Int):=by omega
   obtain rfl:i=p:=by omega
   rcases Nat.lt_or_ge i xs.length with hlt | hge
   ·have hltI:(i:Int)<(xs.length:Int):=by omega
    have e:=List.getElem?_eq_getElem hlt
    have HX:=Aa e
    have HM:=Aa (List.mem_of_getElem? e)
    obtain⟨gr,hA,hrg⟩:=(HO.out.le (HL0.out.trans HLD.out)).elem e
    subst hA
    have RG:=Aa hrg
    have HLN:=Aa (HO.out.len _ HM.out)
    have HCC:=Aa (fun W (hW:Le wr.drew W)=>HC.out _ W HM.out ((HL0.out.trans HLD.out).trans hW))
    clear e hrg
    generalize xs[i]=x at *
    have HBS:=Aa (show bsF cf xs i=decide (cf x=0) by rw[bsF,HX.out])
    have hq:((cf x:Int)==0)=bsF cf xs i:=by
     rw[HBS.out]
     by_cases hc:cf x=0
     ·rw[hc];rfl
     ·rw[decide_eq_false hc,beq_eq_false_iff_ne];exact hc
    have HQ:=Aa hq
    clear hq
    go_upto_region 8 with fail
    refine' Aj 15 14 35 Le (Is _::Is _::Is _::Is _::Is _::Is _::Is _::Is _::Is _::Is _::Is _::Is _::Is _::Is _::Is _::[]) ([]::[]::[]::[1,2]::[3]::[4]::[4]::[4]::[4,6,7]::[4,8]::[4]::[4,5,9,10]::[4,11]::[4,12]::[0]::[]) (by kernel_rfl) (by kernel_rfl) (by rfl) (by kernel_rfl) (by kernel_rfl) Le.refl (fun _ _ _ h h'=>h.trans h') ⟨St.is,St.is,St.is,St.is,St.is,St.is,St.is,St.is,St.is,St.is,St.is,St.is,St.is,St.is,St.is,trivial⟩ ?m8
    case m8 =>
     simp (maxSteps:=100000000) only [AR,Bv,AK,AC,An,AD,Am,Au,Act.put,List.setIfInBounds_toArray,List.set_cons_succ,List.set_cons_zero,List.getElem?_cons_zero,List.getElem?_cons_succ,List.take_succ_cons,List.take_zero,List.drop_succ_cons,List.drop_zero,List.cons_append,List.nil_append,List.length_cons,List.length_nil,Nat.reduceAdd]
     intro x0 x1 x2 x3 x4 x5 x6 x7 x8 x9 x10 x11 x12 x13 x14
     refine⟨⟨?_,?_,?_,?_,?_,?_,?_,?_,?_,?_,?_,?_,?_,?_,?_,trivial⟩,?_⟩
     ·intro wo hw KQ hK;go_simp;exact hK _ _ .r .m
     ·intro wo hw KQ hK;go_simp;exact hK _ _ .r .m
     ·intro wo hw KQ hK;go_simp;exact hK _ _ .r .m
     ·intro wo hw h1 h2 KQ hK;cases h1;cases h2;go_simp;exact hK _ _ .r .m
     ·intro wo hw h3 KQ hK;cases h3;go_simp;exact hK _ _ .r .m
     ·intro wo hw h4 KQ hK;cases h4;go_simp;exact hK _ _ .r .m
     ·intro wo hw h4 KQ hK;cases h4;go_simp;exact hK _ _ .r .m
     ·intro wo hw h4 KQ hK;cases h4;go_simp;exact hK _ _ .r .m
     ·intro wo hw h4 h6 h7 KQ hK;cases h4;cases h6;cases h7;go_simp;exact hK _ _ .r .m
     ·intro wo hw h4 h8 KQ hK;cases h4;cases h8;refine cast (if_pos (show Region.wanted _ _=true from rfl)).symm ?_;refine wp_load_mid 133 (.tmp 43) rfl gr (i*5) rfl x _ (fun j u hj=>hw.cell (RG.out j u hj)) Tryz.underlying133 rfl (by rw[HLN.out];kernel_rfl) ?_;exact hK _ _ .r .m
     ·intro wo hw h4 KQ hK;cases h4;refine cast (if_pos (show Region.wanted _ _=true from rfl)).symm ?_;have hz:=(hw.heap HXD.out);refine Av 133 (.tmp 4) rfl (cs:=[b0,b1,b2,b3,b4]) _ rfl Tryz.underlying133 rfl (by kernel_rfl) hz ?_;exact hK _ _ .r .m
     ·intro wo hw h4 h5 h9 h10 KQ hK;cases h4;cases h5;cases h9;cases h10;go_simp;refine (HCC.out _ hw).mono ?_;rintro e w' ⟨rfl,hb⟩;exact hK _ _ (Le.mk hb) (Is.mk _ _)
     ·intro wo hw h4 h11 KQ hK;cases h4;cases h11;go_simp;exact hK _ _ .r .m
     ·intro wo hw h4 h12 KQ hK;cases h4;cases h12;go_simp;exact hK _ _ .r .m
     ·intro wo hw h0 KQ hK;cases h0;go_simp;exact hK _ _ .r .m
     ·intro wz hz h0 h1 h2 h3 h4 h5 h6 h7 h8 h9 h10 h11 h12 h13 h14;cases h0;cases h1;cases h2;cases h3;cases h4;cases h5;cases h6;cases h7;cases h8;cases h9;cases h10;cases h11;cases h12;cases h13;cases h14;skip
      have HL3:=Aa ((HL0.out.trans HLD.out).trans hz)
      go_wp2_with fail
      rw[HR.out,← HQ.out]
      exact⟨rfl,HL3.out.out⟩
   ·have hltI:¬ (i:Int)<(xs.length:Int):=by omega
    have HBS:=Aa (show bsF cf xs i=false by rw[bsF,List.getElem?_eq_none hge])
    go_upto_region 8 with fail
    go_quiet (fail)
    go_wp2_with fail
    rw[HR.out]
    exact⟨by rw[HBS.out],((HL0.out.trans HLE.out).drewN _).out⟩
def DI (x:Nat):List Value:=[.int .u32 x]
def Ds (p:Per):List Value:=[.int .i64 p.who,.int .i64 p.room,.int .i64 p.rights]
def BC (x:Sub):List Value:=[.int .i64 x.who,.int .i64 x.track,.int .i64 x.layer,.int .i64 x.tid,.bool x.muted]
def trC (t:Trk×Value):List Value:=[.int .i64 t.1.id,.int .i64 t.1.owner,.int .i64 t.1.from_,t.2]
structure DsB (M:Nat→Prop) (w:World) (s:DS) (pv tv sv:Value) (ts:List (Trk×Value)):Prop where
 hP:AA M w 94 3 pv (s.people.map Ds)
 hT:AA M w 182 4 tv (ts.map trC)
 hS:AA M w 133 5 sv (s.subs.map BC)
 eT:ts.map (·.1)=s.tracks
 hR:∀ t∈ts,AA M w 110 1 t.2 (t.1.ssrcs.map DI)
def dsV (s:DS) (pv tv sv:Value):Value:=.agg #[.int .i64 s.mp,.int .i64 s.mt,.int .i64 s.ms,.int .i64 s.ml,pv,tv,sv]
structure DS.Few (s:DS):Prop where
 mp:s.mp≤16
 mt:s.mt≤16
 ml:s.ml≤64
section
variable {M M':Nat→Prop} {w w':World} {s:DS} {pv tv sv:Value} {ts:List (Trk×Value)}
theorem DsB.fp {S:Nat→Prop} (h:DsB M w s pv tv sv ts) (hf:Fp S w w') (hs:∀ k,S k→¬ M k):DsB M w' s pv tv sv ts :=
 ⟨h.hP.fp hf hs,h.hT.fp hf hs,h.hS.fp hf hs,h.eT,fun t ht=>(h.hR t ht).fp hf hs⟩
theorem DsB.le (h:DsB M w s pv tv sv ts) (hl:Le w w'):DsB M w' s pv tv sv ts:=h.fp (S:=fun _=>False) (Fp.of_le hl) (fun _ h=>h.elim)
theorem DsB.mono (h:DsB M w s pv tv sv ts) (hm:∀ k,k<w.heap.size→M k→M' k):DsB M' w s pv tv sv ts :=
 ⟨h.hP.mono hm,h.hT.mono hm,h.hS.mono hm,h.eT,fun t ht=>(h.hR t ht).mono hm⟩
theorem DsB.lenT (h:DsB M w s pv tv sv ts):ts.length=s.tracks.length:=by rw[← h.eT,List.length_map]
end
def Dk (a b:Int):Int:=if a<b then -1 else if b<a then 1 else 0
theorem Es {a b:Int}:Dk a b<0↔a<b:=by unfold Dk;split<;>(try split)<;>omega
theorem B1 {a b:Int}:Dk a b=0↔a=b:=by unfold Dk;split<;>(try split)<;>omega
theorem nan_any (a:Int) (w:World):Calls Tryz.prog 157 #[.int .i64 a] w (Ax w (.bool false)):=by
 have hz:((a:Int) !=a)=false:=by simp
 go_enter Tryz.func157,Tryz.ntmps157
 go_wp2_with fail
 go_ret
 exact⟨rfl,(Le.refl w).out⟩
theorem Cj (a b:Int) (w:World):Calls Tryz.prog 103 #[.int .i64 a,.int .i64 b] w (Ax w (.int .i64 (Dk a b))):=by
 obtain⟨R,hR⟩:∃ R,R=Ax w (.int .i64 (Dk a b)):=⟨_,rfl⟩
 rw[← hR]
 have HR:=Aa hR
 clear hR
 go_enter Tryz.func103,Tryz.ntmps103
 go_wp2_with fail
 refine (nan_any a w).mono ?_
 rintro e w2 ⟨rfl,hb2⟩
 have HL2:=Aa (Le.mk hb2)
 clear hb2
 go_wp2_with fail
 refine (nan_any b w2).mono ?_
 rintro e w3 ⟨rfl,hb3⟩
 have HL3:=Aa (HL2.out.trans (Le.mk hb3))
 clear hb3 HL2
 by_cases h1:a<b
 ·have HE:=Aa (show Dk a b = -1 by rw[Dk,if_pos h1])
  go_wp2_with fail
  rw[HR.out]
  exact⟨by rw[HE.out];rfl,HL3.out.out⟩
 ·by_cases h2:b<a
  ·have HE:=Aa (show Dk a b=1 by rw[Dk,if_neg h1,if_pos h2])
   go_wp2_with fail
   rw[HR.out]
   exact⟨by rw[HE.out];rfl,HL3.out.out⟩
  ·have HE:=Aa (show Dk a b=0 by rw[Dk,if_neg h1,if_neg h2])
   go_wp2_with fail
   rw[HR.out]
   exact⟨by rw[HE.out];rfl,HL3.out.out⟩
def orI (a b:Int):Int:=if a≠0 then a else b
theorem per1_any (a0 a1 a2:Value) (k a:Int) (hk:a0=.int .i64 k) (w:World):Calls Tryz.prog 216 #[.agg #[a0,a1,a2],.int .i64 a] w (Ax w (.int .i64 (Dk k a))):=by
 subst hk
 have HL:=Aa ((Le.refl w).alloc (.cells #[.int .i64 k,a1,a2] 94))
 have HX:=Aa (heap_alloc_new w (.cells #[.int .i64 k,a1,a2] 94))
 obtain⟨R,hR⟩:∃ R,R=Ax w (.int .i64 (Dk k a)):=⟨_,rfl⟩
 rw[← hR]
 have HR:=Aa hR
 clear hR
 go_enter Tryz.func216,Tryz.ntmps216
 go_upto_region 1 with fail
 generalize w.alloc (.cells #[.int .i64 k,a1,a2] 94)=w1 at *
 generalize w.heap.size=gx at *
 have y0:w1.cell? ⟨gx,0,none⟩=some (.int .i64 k):=Ae HX.out 0
 go_wp2_with fail
 refine (Cj k a w1).mono ?_
 rintro e w2 ⟨rfl,hb2⟩
 have HL2:=Aa (HL.out.trans (Le.mk hb2))
 clear hb2
 go_wp2_with fail
 rw[HR.out]
 exact⟨rfl,HL2.out.out⟩
theorem Hf (a0 a1 a2 a3:Value) (k a:Int) (hk:a0=.int .i64 k) (w:World):Calls Tryz.prog 233 #[.agg #[a0,a1,a2,a3],.int .i64 a] w (Ax w (.int .i64 (Dk k a))):=by
 subst hk
 have HL:=Aa ((Le.refl w).alloc (.cells #[.int .i64 k,a1,a2,a3] 182))
 have HX:=Aa (heap_alloc_new w (.cells #[.int .i64 k,a1,a2,a3] 182))
 obtain⟨R,hR⟩:∃ R,R=Ax w (.int .i64 (Dk k a)):=⟨_,rfl⟩
 rw[← hR]
 have HR:=Aa hR
 clear hR
 go_enter Tryz.func233,Tryz.ntmps233
 go_upto_region 1 with fail
 generalize w.alloc (.cells #[.int .i64 k,a1,a2,a3] 182)=w1 at *
 generalize w.heap.size=gx at *
 have y0:w1.cell? ⟨gx,0,none⟩=some (.int .i64 k):=Ae HX.out 0
 go_wp2_with fail
 refine (Cj k a w1).mono ?_
 rintro e w2 ⟨rfl,hb2⟩
 have HL2:=Aa (HL.out.trans (Le.mk hb2))
 clear hb2
 go_wp2_with fail
 rw[HR.out]
 exact⟨rfl,HL2.out.out⟩
theorem or_any (a b:Int) (g:Nat) (w:World) (hg:w.heap[g]?=some (.cells #[.int .i64 a,.int .i64 b] 3 (0,0))):Calls Tryz.prog 220 #[.slice (some ⟨g,0,none⟩) 2 2] w (Ax w (.int .i64 (orI a b))):=by
 obtain⟨R,hR⟩:∃ R,R=Ax w (.int .i64 (orI a b)):=⟨_,rfl⟩
 rw[← hR]
 have HR:=Aa hR
 have y0:w.cell? ⟨g,0,none⟩=some (.int .i64 a):=Ae hg 0
 have y1:w.cell? ⟨g,1,none⟩=some (.int .i64 b):=Ae hg 1
 clear hR hg
 go_enter Tryz.func220,Tryz.ntmps220
 go_wp2_with fail
 go_loopw [5,8] (fun _ j wr=>∃ k:Nat,k≤2∧j=.int .i64 k∧wr=w∧Hd (0<k→a=0)∧Hd (1<k→b=0)) (fun _ j _=>2 - (intOf j).toNat)
 case atStart=>exact⟨0,by omega,rfl,rfl,Aa (by omega),Aa (by omega)⟩
 case round =>
  obtain⟨k,hk,rfl,rfl,H1,H2⟩:=hrel
  rcases (show k=0∨k=1∨k=2 by omega) with rfl | rfl | rfl
  ·by_cases ha:a=0
   ·have hz:((a:Int) !=0)=false:=by simp[ha]
    have HA:=Aa ha
    clear ha
    go_wp2_with fail
    exact⟨⟨1,by omega,rfl,trivial,Aa (fun _=>HA.out),Aa (by omega)⟩,by simp[intOf]⟩
   ·have hz:((a:Int) !=0)=true:=by simp[ha]
    have HA:=Aa ha
    clear ha
    go_wp2_with fail
    rw[HR.out]
    exact⟨by rw[orI,if_pos HA.out];rfl,(Le.refl _).out⟩
  ·have ha:=H1.out (by omega)
   have HE:=Aa (show orI a b=b by rw[orI,if_neg (by simp[ha])])
   have HA:=Aa ha
   clear ha
   by_cases hb:b=0
   ·have hz:((b:Int) !=0)=false:=by simp[hb]
    have HB:=Aa hb
    clear hb
    go_wp2_with fail
    exact⟨⟨2,by omega,rfl,trivial,Aa (fun _=>HA.out),Aa (fun _=>HB.out)⟩,by simp[intOf]⟩
   ·have hz:((b:Int) !=0)=true:=by simp[hb]
    clear hb
    go_wp2_with fail
    rw[HR.out]
    exact⟨by rw[HE.out];rfl,(Le.refl _).out⟩
  ·have HE:=Aa (show orI a b=0 by rw[orI,if_neg (by simp[H1.out (by omega)]),H2.out (by omega)])
   go_wp2_with fail
   rw[HR.out]
   exact⟨by rw[HE.out];rfl,(Le.refl _).out⟩
theorem sub1_any (a0 a1 b0 b1:Int) (a2 a3 a4 b2 b3 b4:Value) (w:World):Calls Tryz.prog 219 #[.agg #[.int .i64 a0,.int .i64 a1,a2,a3,a4],.agg #[.int .i64 b0,.int .i64 b1,b2,b3,b4]] w (Ax w (.int .i64 (orI (Dk a0 b0) (Dk a1 b1)))):=by
 have HL:=Aa (((Le.refl w).alloc (.cells #[.int .i64 a0,.int .i64 a1,a2,a3,a4] 133)).alloc (.cells #[.int .i64 b0,.int .i64 b1,b2,b3,b4] 133))
 have HX:=Aa (heap_alloc (o':=.cells #[.int .i64 b0,.int .i64 b1,b2,b3,b4] 133) (heap_alloc_new w (.cells #[.int .i64 a0,.int .i64 a1,a2,a3,a4] 133)))
 have HY:=Aa (heap_alloc_new (w.alloc (.cells #[.int .i64 a0,.int .i64 a1,a2,a3,a4] 133)) (.cells #[.int .i64 b0,.int .i64 b1,b2,b3,b4] 133))
 have HS:=Aa (show (w.alloc (.cells #[.int .i64 a0,.int .i64 a1,a2,a3,a4] 133)).heap.size=w.heap.size+1 by show (w.heap.push _).size=_;rw[Array.size_push])
 rw[HS.out] at HY
 obtain⟨R,hR⟩:∃ R,R=Ax w (.int .i64 (orI (Dk a0 b0) (Dk a1 b1))):=⟨_,rfl⟩
 rw[← hR]
 have HR:=Aa hR
 clear hR HS
 go_enter Tryz.func219,Tryz.ntmps219
 go_upto_region 1 with fail
 generalize (w.alloc (.cells #[.int .i64 a0,.int .i64 a1,a2,a3,a4] 133)).alloc (.cells #[.int .i64 b0,.int .i64 b1,b2,b3,b4] 133)=w1 at *
 generalize w.heap.size+1=gy at *
 generalize w.heap.size=gx at *
 have HXD:=Aa ((Le.refl w1).drew.heap HX.out)
 have HYD:=Aa ((Le.refl w1).drew.heap HY.out)
 refine' Aj 12 12 5 Le (Is _::Is _::Is _::Is _::Is _::Is _::Is _::Is _::Is _::Is _::(fun v W=>∃ g:Nat,v=.slice (some ⟨g,0,none⟩) 2 2∧W.heap[g]?=some (.cells #[.int .i64 (Dk a0 b0),.int .i64 (Dk a1 b1)] 3 (0,0)))::Is _::[]) ([]::[0]::[]::[2]::[1,3]::[]::[5]::[]::[7]::[6,8]::[4,9]::[10]::[]) (by kernel_rfl) (by kernel_rfl) (by rfl) (by kernel_rfl) (by kernel_rfl) Le.refl (fun _ _ _ h h'=>h.trans h') ⟨St.is,St.is,St.is,St.is,St.is,St.is,St.is,St.is,St.is,St.is,(fun _ _ _ h ⟨g,e1,e2⟩=>⟨g,e1,h.heap e2⟩),St.is,trivial⟩ ?m1
 case m1 =>
  simp (maxSteps:=100000000) only [AR,Bv,AK,AC,An,AD,Am,Au,List.set_cons_succ,List.set_cons_zero,List.getElem?_cons_zero,List.getElem?_cons_succ,List.take_succ_cons,List.take_zero,List.drop_succ_cons,List.drop_zero,List.cons_append,List.nil_append,List.length_cons,List.length_nil,Nat.reduceAdd]
  intro x0 x1 x2 x3 x4 x5 x6 x7 x8 x9 x10 x11
  refine⟨⟨?_,?_,?_,?_,?_,?_,?_,?_,?_,?_,?_,?_,trivial⟩,?_⟩
  ·intro wo hw KQ hK;go_simp;exact hK _ _ .r .m
  ·intro wo hw h0 KQ hK;cases h0;have kk:=Af (hw.heap HXD.out) 0 (.int .i64 a0) rfl wo (Le.refl _);go_simp;exact hK _ _ .r .m
  ·intro wo hw KQ hK;go_simp;exact hK _ _ .r .m
  ·intro wo hw h2 KQ hK;cases h2;have kk:=Af (hw.heap HYD.out) 0 (.int .i64 b0) rfl wo (Le.refl _);go_simp;exact hK _ _ .r .m
  ·intro wo hw h1 h3 KQ hK;cases h1;cases h3;go_simp;refine (Cj _ _ _).mono ?_;rintro e w' ⟨rfl,hb⟩;exact hK _ _ (Le.mk hb) (Is.mk _ _)
  ·intro wo hw KQ hK;go_simp;exact hK _ _ .r .m
  ·intro wo hw h5 KQ hK;cases h5;have kk:=Af (hw.heap HXD.out) 1 (.int .i64 a1) rfl wo (Le.refl _);go_simp;exact hK _ _ .r .m
  ·intro wo hw KQ hK;go_simp;exact hK _ _ .r .m
  ·intro wo hw h7 KQ hK;cases h7;have kk:=Af (hw.heap HYD.out) 1 (.int .i64 b1) rfl wo (Le.refl _);go_simp;exact hK _ _ .r .m
  ·intro wo hw h6 h8 KQ hK;cases h6;cases h8;go_simp;refine (Cj _ _ _).mono ?_;rintro e w' ⟨rfl,hb⟩;exact hK _ _ (Le.mk hb) (Is.mk _ _)
  ·intro wo hw h4 h9 KQ hK;cases h4;cases h9;go_simp;exact hK _ _ ((Le.refl _).alloc _) ⟨_,rfl,heap_alloc_new _ _⟩
  ·intro wo hw h10 KQ hK;obtain⟨gq,rfl,hgq⟩:=h10;go_simp;refine (or_any _ _ _ _ hgq).mono ?_;rintro e w' ⟨rfl,hb⟩;exact hK _ _ (Le.mk hb) (Is.mk _ _)
  ·intro wz hz h0 h1 h2 h3 h4 h5 h6 h7 h8 h9 h10 h11;cases h0;cases h1;cases h2;cases h3;cases h4;cases h5;cases h6;cases h7;cases h8;cases h9;obtain⟨gq,rfl,hgq⟩:=h10;cases h11;skip
   have HL2:=Aa ((HL.out.trans (Le.refl w1).drew).trans hz)
   go_wp2_with fail
   rw[HR.out]
   exact⟨rfl,HL2.out.out⟩
end Go.Proofs.YtmcndlofaanjiaaGreat
