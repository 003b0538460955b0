/- Texts of one claim, laid together: Del11 DfT Del12 Del13 Del14 -/
import Derived.Test.YtmcndlofaanjiaaGreatJo11
import Derived.Test.YtmcndlofaanjiaaGreatJo14
import Derived.Test.YtmcndlofaanjiaaGreatJo08
import Derived.Test.YtmcndlofaanjiaaGreatJo12
/- delta: own. (Written by gen_del11.py.) -/
namespace Go.Proofs.YtmcndlofaanjiaaGreat
open Go.RowKit
set_option linter.unusedVariables false
set_option maxRecDepth 100000
set_option maxHeartbeats 8000000
def OwnP (w:World) (s:DS) (tv:Value) (q:Rq) (e:Ending) (w':World):Prop :=
 Le w w'∧(s.ownE q≠0→e=.returned (.tuple #[.pointer none,.int .i64 (s.ownE q)])) ∧
 (s.ownE q=0→s.hasT q.track=true∧∃ g n c,tv=.slice (some ⟨g,0,none⟩) n c∧e=.returned (.tuple #[.pointer (some ⟨g,s.tAt q.track*4,none⟩),.int .i64 0]))
section
variable {M M':Nat→Prop} {w w' w'':World} {a:Nat} {s:DS} {pv tv sv:Value} {ts:List (Trk×Value)}
theorem own_any (h:DtB M w a s pv tv sv ts) (ok:s.Ok) (fw:s.Few) (q:Rq) (qs:Value) (hq1:qs.oneCell'=true):Calls Tryz.prog 207 #[.pointer (some ⟨a,0,none⟩),rqV q qs] w (OwnP w s tv q):=by
 obtain⟨l1,l2,l3⟩:=lens ok fw
 have HL:=Aa ((Le.refl w).alloc (.cells #[.int .i64 q.kind,.int .i64 q.who,.int .i64 q.room,.int .i64 q.rights,.int .i64 q.track,qs,.int .i64 q.layer,.int .i64 q.tid] 31))
 have HX:=Aa (heap_alloc_new w (.cells #[.int .i64 q.kind,.int .i64 q.who,.int .i64 q.room,.int .i64 q.rights,.int .i64 q.track,qs,.int .i64 q.layer,.int .i64 q.tid] 31))
 have H:=Aa (h.le HL.out)
 have H0:=Aa h
 obtain⟨R,hR⟩:∃ R,R=OwnP w s tv q:=⟨_,rfl⟩
 rw[← hR]
 have HR:=Aa hR
 clear hR h
 show Calls Tryz.prog 207 #[.pointer (some ⟨a,0,none⟩),.agg #[.int .i64 q.kind,.int .i64 q.who,.int .i64 q.room,.int .i64 q.rights,.int .i64 q.track,qs,.int .i64 q.layer,.int .i64 q.tid]] w R
 go_enter Tryz.func207,Tryz.ntmps207
 go_upto_region 1 with fail
 generalize w.alloc (.cells #[.int .i64 q.kind,.int .i64 q.who,.int .i64 q.room,.int .i64 q.rights,.int .i64 q.track,qs,.int .i64 q.layer,.int .i64 q.tid] 31)=w1 at *
 generalize w.heap.size=gx at *
 have HD:=Aa (H.out.le (Le.refl w1).drew)
 have HXD:=Aa ((Le.refl w1).drew.heap HX.out)
 refine' Aj 10 6 9 Le (Is _::Is _::Is _::Is _::Is _::Is _::Is _::Is _::Is _::Is _::[]) ([]::[0]::[1]::[]::[3]::[2,4]::[5]::[6]::[6]::[7]::[]) (by kernel_rfl) (by kernel_rfl) (by rfl) (by kernel_rfl) (by kernel_rfl) Le.refl (fun _ _ _ h h'=>h.trans h') ⟨St.is,St.is,St.is,St.is,St.is,St.is,St.is,St.is,St.is,St.is,trivial⟩ ?m1
 case m1 =>
  simp (maxSteps:=100000000) only [AR,Bv,AK,AC,An,AD,Am,Au,Act.put,List.setIfInBounds_toArray,List.set_cons_succ,List.set_cons_zero,List.getElem?_cons_zero,List.getElem?_cons_succ,List.take_succ_cons,List.take_zero,List.drop_succ_cons,List.drop_zero,List.cons_append,List.nil_append,List.length_cons,List.length_nil,Nat.reduceAdd]
  intro x0 x1 x2 x3 x4 x5 x6 x7 x8 x9
  refine⟨⟨?_,?_,?_,?_,?_,?_,?_,?_,?_,?_,trivial⟩,?_⟩
  ·intro wo hw KQ hK;go_simp;exact hK _ _ .r .m
  ·intro wo hw h0 KQ hK;cases h0;go_simp;exact hK _ _ .r .m
  ·intro wo hw h1 KQ hK;cases h1;refine cast (if_pos (show Region.wanted _ _=true from rfl)).symm ?_;have hz:=(hw.heap HD.out.ha);refine Av 62 (.tmp 10) rfl (cs:=[.int .i64 s.mp,.int .i64 s.mt,.int .i64 s.ms,.int .i64 s.ml,pv,tv,sv]) _ rfl Tryz.underlying62 rfl (by kernel_rfl) hz ?_;exact hK _ _ .r .m
  ·intro wo hw KQ hK;go_simp;exact hK _ _ .r .m
  ·intro wo hw h3 KQ hK;cases h3;have kk:=Af (hw.heap HXD.out) 4 (.int .i64 q.track) rfl wo (Le.refl _);go_simp;exact hK _ _ .r .m
  ·intro wo hw h2 h4 KQ hK;cases h2;cases h4;go_simp;refine (Em (HD.out.D.le hw) ok fw _).mono ?_;rintro e w' ⟨rfl,hb⟩;exact hK _ _ (Le.mk hb) (Is.mk _ _)
  ·intro wo hw h5 KQ hK;cases h5;go_simp;exact hK _ _ .r .m
  ·intro wo hw h6 KQ hK;cases h6;go_simp;exact hK _ _ .r .m
  ·intro wo hw h6 KQ hK;cases h6;go_simp;exact hK _ _ .r .m
  ·intro wo hw h7 KQ hK;cases h7;go_simp;exact hK _ _ .r .m
  ·intro wz hz h0 h1 h2 h3 h4 h5 h6 h7 h8 h9;cases h0;cases h1;cases h2;cases h3;cases h4;cases h5;cases h6;cases h7;cases h8;cases h9;skip
   have HLZ:=Aa ((HL.out.trans (Le.refl w1).drew).trans hz)
   have HXa:=Aa (hz.heap HXD.out)
   have HZ:=Aa (H0.out.le HLZ.out)
   clear HD HXD HX H HL hz
   cases hT:s.hasT q.track
   ·have HE:=Aa (show s.ownE q=21 by rw[DS.ownE,hT];rfl)
    clear hT
    go_wp2_with fail
    rw[HR.out]
    refine⟨HLZ.out,fun _=>by rw[HE.out];rfl,fun h=>by rw[HE.out] at h;cases h⟩
   ·have HT:=Aa hT
    obtain⟨htl,htid⟩:=EK ok hT
    clear hT
    obtain⟨t0,e⟩:∃ t0,ts[s.tAt q.track]?=some t0:=⟨_,List.getElem?_eq_getElem (show s.tAt q.track<ts.length by rw[H0.out.D.lenT];exact htl)⟩
    obtain⟨gt,ctt,pret,postt,htv,_,hpret,hgt⟩:=HZ.out.D.hT.cut (i:=s.tAt q.track) (x:=trC t0) (by rw[List.getElem?_map,e];rfl)
    rw[List.length_map] at htv
    subst htv
    have h8:s.tracks[s.tAt q.track]?=some t0.1:=by rw[← H0.out.D.eT,List.getElem?_map,e];rfl
    have HTRK:=Aa (show (s.trk q.track).owner=t0.1.owner by rw[DS.trk,List.getD,h8,Option.getD_some])
    have KO:=Aa (show wz.cell? ⟨gt,s.tAt q.track*4+1,none⟩=some (.int .i64 t0.1.owner) by
     have h0:pret.length≤s.tAt q.track*4+1:=by rw[hpret];omega
     rw[Ae hgt,List.getElem?_toArray,List.getElem?_append_right h0,hpret,Nat.add_sub_cancel_left];rfl)
    have hkI:(s.tAt q.track:Int)<(ts.length:Int):=by rw[H0.out.D.lenT];omega
    clear e h8 hpret hgt htid htl
    generalize t0.1.owner=ow at *
    go_upto_region 4 with fail
    have HD4:=Aa (HZ.out.le (Le.refl wz).drew)
    have KO4:=Aa ((Le.refl wz).drew.cell KO.out)
    have HXD4:=Aa ((Le.refl wz).drew.heap HXa.out)
    refine' Aj 11 11 21 Le (Is _::Is _::Is _::Is _::Is _::Is _::Is _::Is _::Is _::Is _::Is _::[]) ([]::[0]::[1]::[2]::[]::[3,4]::[5]::[6]::[]::[8]::[7,9]::[]) (by kernel_rfl) (by kernel_rfl) (by rfl) (by kernel_rfl) (by kernel_rfl) Le.refl (fun _ _ _ h h'=>h.trans h') ⟨St.is,St.is,St.is,St.is,St.is,St.is,St.is,St.is,St.is,St.is,St.is,trivial⟩ ?m4
    case m4 =>
     simp (maxSteps:=100000000) only [AR,Bv,AK,AC,An,AD,Am,Au,List.set_cons_succ,List.set_cons_zero,List.getElem?_cons_zero,List.getElem?_cons_succ,List.take_succ_cons,List.take_zero,List.drop_succ_cons,List.drop_zero,List.cons_append,List.nil_append,List.length_cons,List.length_nil,Nat.reduceAdd]
     intro x0 x1 x2 x3 x4 x5 x6 x7 x8 x9 x10
     refine⟨⟨?_,?_,?_,?_,?_,?_,?_,?_,?_,?_,?_,trivial⟩,?_⟩
     ·intro wo hw KQ hK;go_simp;exact hK _ _ .r .m
     ·intro wo hw h0 KQ hK;cases h0;go_simp;exact hK _ _ .r .m
     ·intro wo hw h1 KQ hK;cases h1;go_simp;exact hK _ _ .r .m
     ·intro wo hw h2 KQ hK;cases h2;have kk:=Af (hw.heap HD4.out.ha) 5 (.slice (some ⟨gt,0,none⟩) ts.length ctt) rfl wo (Le.refl _);go_simp;exact hK _ _ .r .m
     ·intro wo hw KQ hK;go_simp;exact hK _ _ .r .m
     ·intro wo hw h3 h4 KQ hK;cases h3;cases h4;go_simp;exact hK _ _ .r .m
     ·intro wo hw h5 KQ hK;cases h5;go_simp;exact hK _ _ .r .m
     ·intro wo hw h6 KQ hK;cases h6;have kk:=hw.cell KO4.out;go_simp;exact hK _ _ .r .m
     ·intro wo hw KQ hK;go_simp;exact hK _ _ .r .m
     ·intro wo hw h8 KQ hK;cases h8;have kk:=Af (hw.heap HXD4.out) 1 (.int .i64 q.who) rfl wo (Le.refl _);go_simp;exact hK _ _ .r .m
     ·intro wo hw h7 h9 KQ hK;cases h7;cases h9;go_simp;exact hK _ _ .r .m
     ·intro wz hz h0 h1 h2 h3 h4 h5 h6 h7 h8 h9 h10;cases h0;cases h1;cases h2;cases h3;cases h4;cases h5;cases h6;cases h7;cases h8;cases h9;cases h10;skip
      have HLe:=Aa ((HLZ.out.trans (Le.refl _).drew).trans hz)
      have HDe:=Aa (HD4.out.le hz)
      clear HD4 KO4 HXD4 HXa KO HZ HLZ hz
      by_cases hw:ow=q.who
      ·have HE:=Aa (show s.ownE q=0 by rw[DS.ownE,HT.out,HTRK.out,if_neg (by simp),if_neg (by simp[hw])])
       have hz1:(ow !=q.who)=false:=by rw[bne_eq_false_iff_eq];exact hw
       clear hw
       generalize hgi:s.tAt q.track=i at *
       have HGI:=Aa hgi
       clear hgi
       have y5:wz.cell? ⟨a,5,none⟩=some (.slice (some ⟨gt,0,none⟩) ts.length ctt):=Ae HDe.out.ha 5
       go_wp2_with fail
       rw[HR.out]
       refine⟨HLe.out,fun h=>absurd HE.out h,fun _=>⟨HT.out,gt,_,_,rfl,?_⟩⟩
       rw[HGI.out]
       rfl
      ·have HE:=Aa (show s.ownE q=24 by rw[DS.ownE,HT.out,HTRK.out,if_neg (by simp),if_pos (by simpa using hw)])
       have hz1:(ow !=q.who)=true:=by rw[bne_iff_ne];exact hw
       clear hw
       generalize s.tAt q.track=i at *
       go_wp2_with fail
       rw[HR.out]
       refine⟨HLe.out,fun _=>by rw[HE.out];rfl,fun h=>by rw[HE.out] at h;cases h⟩
end
theorem FO:SlT Tryz.prog 59 182 (.agg #[.int .i64 0,.int .i64 0,.int .i64 0,.slice none 0 0]) 4 48:=⟨Tryz.underlying59,by kernel_rfl,rfl,by omega⟩
theorem ix_trk {M:Nat→Prop} {w:World} {v:Value} {xs:List (List Value)} (hO:AA M w 182 4 v xs) (hn:xs.length≤1000000) (g:Nat) (cb:Array Value) (eg:∀ args w,(callFunc g args).run Tryz.prog w=.ok (.enter g args) w) (del:List Value→Bool) (I:Nat→World→Prop)
  (hI:∀ j W W',I j W→Fp (fun k=>v.ownBlock=some k) W W'→I j W') (hcall:∀ (j:Nat) (x:List Value) (W:World),xs[j]?=some x→I j W→Calls Tryz.prog g (#[.agg x.toArray]++cb) W fun e w'=>e=.returned (.bool (del x))∧I (j+1) w'∧KT 182 W w') (h0:I 0 w) :
  Calls Tryz.prog 245 #[v,.func (.func g) #[] cb] w fun e w'=>e=.returned (.int .i64 (if ixN del xs<xs.length then (ixN del xs:Int) else -1))∧I (if ixN del xs<xs.length then ixN del xs+1 else xs.length) w'∧KT 182 w w':=by
 obtain⟨A,cap,rfl,_,_,hcap⟩:=hO.cells
 have HO:=Aa hO
 have HI:=Aa hI
 have HC:=Aa hcall
 have H0:=Aa h0
 have HIX:Hd (∀ (k:Nat) (x:List Value),xs[k]?=some x→del x=true→(∀ (t:Nat) (y:List Value),t<k→xs[t]?=some y→del y=false)→ixN del xs=k):=Aa fun k x=>Fj
 have HIN:Hd ((∀ (t:Nat) (y:List Value),xs[t]?=some y→del y=false)→ixN del xs=xs.length):=Aa DX
 obtain⟨R,hR⟩:∃ R:Ending→World→Prop,R=fun e w'=>e=.returned (.int .i64 (if ixN del xs<xs.length then (ixN del xs:Int) else -1))∧I (if ixN del xs<xs.length then ixN del xs+1 else xs.length) w'∧KT 182 w w':=⟨_,rfl⟩
 rw[← hR]
 have HR:=Aa hR
 clear hR hO hI hcall h0
 go_enter Tryz.func245,Tryz.ntmps245
 go_wp2_with fail
 go_loopw [5,8] (fun _ j wr=>∃ k:Nat,k≤xs.length∧j=.int .i64 k∧Hd (I k wr)∧Hd (KT 182 w wr)∧Hd (∀ (t:Nat) (y:List Value),t<k→xs[t]?=some y→del y=false)) (fun _ j _=>xs.length - (intOf j).toNat)
 case atStart=>exact⟨0,Nat.zero_le _,rfl,H0,Aa (KT.refl _ _),Aa fun t y ht=>by omega⟩
 case round =>
  obtain⟨k,hk,rfl,HK,HT,HN⟩:=hrel
  rcases Nat.lt_or_ge k xs.length with hlt | hge
  ·have hltI:(k:Int)<(xs.length:Int):=by omega
   have e:=List.getElem?_eq_getElem hlt
   obtain⟨gr,hA,hrg⟩:=(HO.out.kt HT.out).elem e
   subst hA
   have RG:=Aa hrg
   have HL:=Aa (HO.out.len _ (List.mem_of_getElem? e))
   have HX:=Aa e
   have q1:IntKind.i64.wrap ((k:Int)+1)=((k+1:Nat):Int):=by rw[IntWalk.i64_in _ (by omega)];simp
   clear e hrg
   generalize xs[k]=x at *
   have HCC:=Aa (HC.out k x wr HX.out HK.out)
   cases hd:del x
   ·have HDD:=Aa hd
    clear hd
    go_wp2_with (refine wpList_load_mid rfl 182 (.tmp 14) rfl gr (k*4) rfl x _ RG.out Tryz.underlying182 rfl (by rw[HL.out];kernel_rfl) ?_)
    refine HCC.out.mono ?_
    rintro e w3 ⟨rfl,hi3,ht3⟩
    rw[HDD.out]
    have HI3:=Aa hi3
    have HT3:=Aa (HT.out.trans ht3)
    clear hi3 ht3
    go_wp2_with fail
    refine⟨⟨k+1,hlt,rfl,HI3,HT3,Aa fun t y ht hy=>?_⟩,by simp only[intOf];omega⟩
    rcases Nat.lt_or_ge t k with h | h
    ·exact HN.out t y h hy
    ·obtain rfl:t=k:=by omega
     rw[HX.out] at hy
     injection hy with hy
     rw[← hy];exact HDD.out
   ·have HDD:=Aa hd
    clear hd
    go_wp2_with (refine wpList_load_mid rfl 182 (.tmp 14) rfl gr (k*4) rfl x _ RG.out Tryz.underlying182 rfl (by rw[HL.out];kernel_rfl) ?_)
    refine HCC.out.mono ?_
    rintro e w3 ⟨rfl,hi3,ht3⟩
    rw[HDD.out]
    have HI3:=Aa hi3
    have HT3:=Aa (HT.out.trans ht3)
    clear hi3 ht3
    go_wp2_with fail
    rw[HR.out]
    have e9:=HIX.out k x HX.out HDD.out HN.out
    refine⟨?_,?_,HT3.out⟩
    ·rw[e9,if_pos hlt];rfl
    ·rw[e9,if_pos hlt];exact HI3.out
  ·have hgeI:¬ (k:Int)<(xs.length:Int):=by omega
   obtain rfl:k=xs.length:=by omega
   go_wp2_with fail
   rw[HR.out]
   have e9:=HIN.out fun t y hy=>HN.out t y (List.getElem?_eq_some_iff.1 hy).1 hy
   refine⟨?_,?_,HT.out⟩
   ·rw[e9,if_neg (Nat.lt_irrefl _)]
   ·rw[e9,if_neg (Nat.lt_irrefl _)];exact HK.out
def DfP_trk (M:Nat→Prop) (v:Value) (xs:List (List Value)) (del:List Value→Bool) (I:Nat→World→Prop) (e:Ending) (w':World):Prop :=
 ∃ v',e=.returned v'∧AA M w' 182 4 v' (xs.filter fun x=>!del x)∧v'.ownBlock=v.ownBlock∧I xs.length w'
theorem df_trk {M:Nat→Prop} {w:World} {v:Value} {xs:List (List Value)} (hO:AA M w 182 4 v xs) (hn:xs.length≤1000000) (g:Nat) (cb:Array Value) (eg:∀ args w,(callFunc g args).run Tryz.prog w=.ok (.enter g args) w) (del:List Value→Bool) (I:Nat→World→Prop)
  (hI:∀ j W W',I j W→Fp (fun k=>v.ownBlock=some k) W W'→I j W') (hcall:∀ (j:Nat) (x:List Value) (W:World),xs[j]?=some x→I j W→Calls Tryz.prog g (#[.agg x.toArray]++cb) W fun e w'=>e=.returned (.bool (del x))∧I (j+1) w'∧KT 182 W w') (h0:I 0 w) (h1:∀ x∈xs,∀ u∈x,u.oneCell'=true) :
  Calls Tryz.prog 230 #[v,.func (.func g) #[] cb] w (DfP_trk M v xs del I):=by
 have HIX:=Aa (fun W hW=>ix_trk (w:=W) (hO.le hW) hn g cb eg del I hI hcall (hI 0 w W h0 (Fp.of_le hW)))
 have HO:=Aa hO
 have HI:=Aa hI
 have HC:=Aa hcall
 have H1:=Aa h1
 obtain⟨R,hR⟩:∃ R:Ending→World→Prop,R=DfP_trk M v xs del I:=⟨_,rfl⟩
 rw[← hR]
 have HR:=Aa hR
 clear hR hI hcall h0 h1
 obtain⟨i,hi⟩:∃ i,i=ixN del xs:=⟨_,rfl⟩
 rw[← hi] at HIX
 have HIE:=Aa hi
 clear hi
 go_enter Tryz.func230,Tryz.ntmps230
 go_wp2_with fail
 refine (HIX.out w (Le.refl w)).mono ?_
 rintro e w2 ⟨rfl,hi2,ht2⟩
 have HI2:=Aa hi2
 have HT2:=Aa ht2
 clear hi2 ht2 HIX
 rcases Nat.lt_or_ge i xs.length with hlt | hge
 ·rw[if_pos hlt] at HI2 ⊢
  have hz:((i:Int)==-1)=false:=by rw[beq_eq_false_iff_ne];omega
  rcases hO.val with ⟨_,e⟩ | ⟨gr,cap,cur,hv,hM,hg,hc,hm,hs,hr⟩
  ·subst e;simp at hlt
  ·subst hv
   obtain⟨x0,hx0,hd0⟩:∃ x,xs[i]?=some x∧del x=true:=by rw[HIE.out];exact GO (by rw[← HIE.out];exact hlt)
   obtain⟨hst1,hst2⟩:=C7.start hr (i:=i) (by rw[HIE.out];exact Ea del xs) hx0 hd0
   have HG2:=Aa (HT2.out.heap hg)
   have HF1:=Aa hst1
   have HF2:=Aa (show ((xs.take (i+1)).filter fun v=>!del v).length=i by rw[hst2,List.length_take];omega)
   have HCL:=Aa (show cur.toList.length=cap*4 by simpa using hs)
   have HM:=Aa hM
   have HCM:=Aa hm
   have q1:IntKind.i64.wrap ((i:Int)+1)=((i+1:Nat):Int):=by rw[IntWalk.i64_in _ (by omega)];simp
   clear hx0 hd0 hst1 hst2 hg hr hs hO hM hm
   go_wp2_with fail
   go_loopw [5,6,7] (fun s5 s6 _ wr=>∃ (j f:Nat) (cr:List Value),f<j∧j≤xs.length∧s6=.int .i64 j∧s5=.int .i64 f∧Hd (((xs.take j).filter fun v=>!del v).length=f)∧Hd (I j wr)∧Hd (wr.heap[gr]?=some (.cells cr.toArray 182 (0,0)))∧Hd (cr.length=cap*4)∧Hd (C7 cr 4 xs del j)) (fun _ s6 _ _=>xs.length - (intOf s6).toNat)
   case atStart=>exact⟨i+1,i,cur.toList,by omega,hlt,rfl,rfl,HF2,HI2,Aa (by rw[Array.toArray_toList];exact HG2.out),HCL,HF1⟩
   case round =>
    clear HF2 HI2 HG2 HCL HF1 q1 hz
    obtain⟨j,f,cr,hfj,hj,rfl,rfl,HF,HIj,HG,HCL,HD⟩:=hrel
    rcases Nat.lt_or_ge j xs.length with hjl | hjg
    ·have hjI:(j:Int)<(xs.length:Int):=by omega
     have hfI:(f:Int)<(xs.length:Int):=by omega
     have e:=List.getElem?_eq_getElem hjl
     have HX:=Aa e
     have HL:=Aa (HO.out.len _ (List.mem_of_getElem? e))
     have HU:=Aa (H1.out _ (List.mem_of_getElem? e))
     have HCC:=Aa (fun W=>HC.out j _ W e)
     have q1:IntKind.i64.wrap ((j:Int)+1)=((j+1:Nat):Int):=by rw[IntWalk.i64_in _ (by omega)];simp
     have q2:IntKind.i64.wrap ((f:Int)+1)=((f+1:Nat):Int):=by rw[IntWalk.i64_in _ (by omega)];simp
     clear e
     generalize xs[j]=x at *
     have RG:=Aa (show wr.rangeAt gr (j*4) x from fun k u hk=>by
      have hk3:k<4:=by rw[← HL.out];exact (List.getElem?_eq_some_iff.1 hk).1
      rw[Ae HG.out,List.getElem?_toArray,HD.out.back j x (Nat.le_refl _) HX.out k hk3,hk])
     go_upto_region 8 with (first | (refine wpList_load_mid rfl 182 (.tmp 24) rfl gr (j*4) rfl x _ RG.out Tryz.underlying182 rfl (by rw[HL.out];kernel_rfl) ?_) | (refine Ak rfl 182 (.tmp 7) (.tmp 25) rfl (cs:=x) (old:=[.int .i64 0,.int .i64 0,.int .i64 0,.slice none 0 0]) rfl rfl (by rw[HL.out];kernel_rfl) HU.out (heap_alloc_new _ _) (by rw[HL.out];rfl) ?_;intro w3 h3 hg3;have H3:=Aa h3;have HL3:=Aa (show Le wr w3 from ((Le.refl wr).alloc _).box1 hg3 (Nat.le_refl _));clear h3 hg3))
     have HI3:=Aa (HI.out j wr w3 HIj.out (Fp.of_le HL3.out))
     have HG3:=Aa (HL3.out.heap HG.out)
     clear HIj HG RG HL3
     generalize wr.heap.size=gx at *
     go_wp2_with (refine Al rfl 182 (.tmp 7) rfl (cs:=x) _ rfl Tryz.underlying182 rfl (by rw[HL.out];kernel_rfl) H3.out ?_)
     refine (HCC.out w3 HI3.out).mono ?_
     rintro e w4 ⟨rfl,hi4,ht4⟩
     have HI4:=Aa hi4
     have HG4:=Aa (ht4.heap HG3.out)
     have H4:=Aa (ht4.heap H3.out)
     clear hi4 ht4 HI3 HG3 H3 HCC
     cases hd:del x
     ·have HDD:=Aa hd
      clear hd
      obtain⟨pre,old,post,hcr,hpre,hold⟩:=Ec HCL.out (show f<cap by omega)
      have HCR:=Aa hcr
      have HPRE:=Aa hpre
      have HOLD:=Aa hold
      clear hcr hpre hold
      go_wp2_with (first | (refine Al rfl 182 (.tmp 7) rfl (cs:=x) _ rfl Tryz.underlying182 rfl (by rw[HL.out];kernel_rfl) H4.out ?_) | (refine Bc rfl 182 (.tmp 33) (.tmp 32) rfl pre (cs:=x) (old:=old) (post:=post) (by rw[HPRE.out];rfl) rfl (by rw[HL.out];kernel_rfl) HU.out (by have:=HG4.out;rw[HCR.out,List.append_assoc] at this;exact this) (by rw[HL.out,HOLD.out]) ?_;intro w5 h5 hg5;have H5:=Aa h5;have HG5:=Aa hg5;clear h5 hg5))
      have hD2:=HD.out
      rw[HCR.out] at hD2
      obtain⟨k1,k2⟩:=hD2.keep HX.out HDD.out HL.out (by rw[HF.out];exact HPRE.out) HOLD.out
      refine⟨⟨j+1,f+1,pre++x++post,by omega,hjl,rfl,rfl,Aa ?_,Aa (HI.out _ w4 w5 HI4.out (Fp.of_grown HG5.out rfl)),Aa (by rw[List.append_assoc];exact H5.out),Aa ?_,Aa k1⟩,by simp only[intOf];omega⟩
      ·rw[k2,List.length_append,HF.out];rfl
      ·have:=HCL.out
       rw[HCR.out] at this
       simp only[List.length_append] at this ⊢
       rw[HL.out]
       have:=HOLD.out
       omega
     ·have HDD:=Aa hd
      clear hd
      go_wp2_with fail
      obtain⟨k1,k2⟩:=HD.out.skip HX.out HDD.out
      exact⟨⟨j+1,f,cr,by omega,hjl,rfl,rfl,Aa (by rw[k2];exact HF.out),HI4,HG4,HCL,Aa k1⟩,by simp only[intOf];omega⟩
    ·have hjI:¬ (j:Int)<(xs.length:Int):=by omega
     obtain rfl:j=xs.length:=by omega
     have hfn:f≤xs.length:=by omega
     have hfc:f<cap:=by omega
     have hfc2:¬ cap=f:=by omega
     have hfc3:f≤cap:=by omega
     have hmul:f*4+(xs.length - f)*4=xs.length*4:=by rw[← Nat.add_mul];congr 1;omega
     have hmul2:xs.length*4≤cap*4:=Nat.mul_le_mul_right _ hc
     have HML:=Aa (And.intro hmul hmul2)
     clear hmul hmul2
     go_wp2_with (refine Cs rfl FO (by simp[Value.cells,Value.oneCell']) (.tmp 38) rfl (g:=gr) (off:=f*4) (n:=xs.length - f) rfl HG.out (by rw[HCL.out,HML.out.1];exact HML.out.2) ?_;intro zs w7 hzs h7 hg7;have HZ:=Aa hzs;have H7:=Aa h7;have HG7:=Aa hg7;clear hzs h7 hg7)
     rw[HR.out]
     have hfil:(xs.take xs.length).filter (fun v=>!del v)=xs.filter fun v=>!del v:=by rw[List.take_length]
     have hF:=HF.out
     have hD:=HD.out.front
     rw[hfil] at hF hD
     have hlen:∀ y∈xs.filter (fun v=>!del v),y.length=4:=fun y hy=>HO.out.len y (List.mem_filter.1 hy).1
     have hfs:(f*4)≤cr.length:=by rw[HCL.out];exact Nat.mul_le_mul_right _ hfc3
     have htk:=hD.take hlen (by rw[hF];exact hfs)
     rw[hF] at htk
     refine⟨_,rfl,⟨⟨?_,.inr ⟨gr,cap,(cr.take (f*4)++zs++cr.drop (f*4+(xs.length - f)*4)).toArray,?_,Nat.zero_le _,H7.out,?_,HCM.out,?_,?_⟩⟩,fun k hk=>?_,hlen⟩,rfl,HI.out _ wr w7 HIj.out (Fp.of_grown HG7.out rfl)⟩
     ·rw[AJ hlen]
     ·rw[hF]
     ·rw[hF];exact hfc3
     ·have h1:=HCL.out
      have h2:=HML.out
      simp only[List.size_toArray,List.length_append,List.length_take,List.length_drop,HZ.out,HCL.out]
      omega
     ·rw[hF,List.append_assoc,List.take_append_of_le_length (by rw[List.length_take];omega),List.take_take,Nat.min_self]
      exact htk
     ·simp only[Value.ownBlock,Option.some.injEq] at hk
      rw[← hk];exact HM.out
 ·rw[if_neg (by omega)] at HI2 ⊢
  have HXS:=Aa (Gp (del:=del) (xs:=xs) (by rw[← HIE.out];omega))
  go_wp2_with fail
  rw[HR.out]
  exact⟨v,rfl,by rw[HXS.out];exact hO.kt HT2.out,rfl,HI2.out⟩
structure TrB (M:Nat→Prop) (w:World) (s:DS) (tv:Value) (ts:List (Trk×Value)):Prop where
 hT:AA M w 182 4 tv (ts.map trC)
 eT:ts.map (·.1)=s.tracks
 so:s.tracks.Pairwise fun a b=>a.id<b.id
 few:s.tracks.length≤1000
theorem TrB.lenT {M:Nat→Prop} {w:World} {s:DS} {tv:Value} {ts:List (Trk×Value)} (h:TrB M w s tv ts):ts.length=s.tracks.length:=by rw[← h.eT,List.length_map]
theorem TrB.le {M:Nat→Prop} {w w':World} {s:DS} {tv:Value} {ts:List (Trk×Value)} (h:TrB M w s tv ts) (hl:Le w w'):TrB M w' s tv ts:=⟨h.hT.le hl,h.eT,h.so,h.few⟩
theorem trk_at' {s:DS} (h:s.tracks.Pairwise fun a b=>a.id<b.id) {id:Int} (hp:s.hasT id=true):s.tAt id<s.tracks.length∧(s.trk id).id=id:=by
 obtain⟨p,hm,rfl⟩:=By.1 hp
 obtain⟨i,hi,rfl⟩:=List.getElem_of_mem hm
 have h1:¬ i<s.tAt s.tracks[i].id:=by rw[show _<s.tAt _↔_ from Bq Trk.id s.tracks h _ _ hi];omega
 have h2:s.tAt s.tracks[i].id=i:=by
  refine Nat.le_antisymm (by omega) ?_
  refine Nat.le_of_not_lt fun hlt=>?_
  have h3:s.tAt s.tracks[i].id<s.tracks.length:=by omega
  have h4:=List.pairwise_iff_getElem.1 h _ _ h3 hi hlt
  have h5:s.tAt s.tracks[i].id<s.tAt s.tracks[i].id:=(Bq Trk.id s.tracks h s.tracks[i].id _ h3).2 h4
  omega
 refine⟨by omega,?_⟩
 rw[DS.trk,h2,List.getD,List.getElem?_eq_getElem hi,Option.getD_some]
section
variable {M M':Nat→Prop} {w w':World} {s:DS} {tv:Value} {ts:List (Trk×Value)}
theorem Fe (h:TrB M w s tv ts) {i:Nat} {x:List Value} (hx:(ts.map trC)[i]?=some x):∃ (hi:i<s.tracks.length) (v:Value),x=trC (s.tracks[i],v):=by
 rw[List.getElem?_map] at hx
 obtain⟨p,hp,rfl⟩:=Option.map_eq_some_iff.1 hx
 obtain⟨hi,e⟩:=List.getElem?_eq_some_iff.1 hp
 have hi2:i<s.tracks.length:=by rw[← h.lenT];exact hi
 refine⟨hi2,p.2,?_⟩
 have e2:s.tracks[i]=p.1:=by
  have h3:s.tracks[i]?=some p.1:=by rw[← h.eT,List.getElem?_map,hp];rfl
  rw[List.getElem?_eq_getElem hi2] at h3
  exact Option.some.inj h3
 rw[e2]
theorem hasT_bs' (h:TrB M w s tv ts) (id:Int):bsF (cf1 id) (ts.map trC) (s.tAt id)=s.hasT id:=by
 unfold bsF
 cases hh:s.hasT id
 ·split
  ·next x hx =>
   obtain⟨hi,v,rfl⟩:=Fe h hx
   refine decide_eq_false fun e=>?_
   have h2:s.tracks[s.tAt id].id=id:=B1.1 e
   have h3:s.hasT id=true:=By.2 ⟨_,List.getElem_mem hi,h2⟩
   rw[h3] at hh;cases hh
  ·rfl
 ·obtain⟨h1,h2⟩:=trk_at' h.so hh
  have e0:=List.getElem?_eq_getElem (show s.tAt id<(ts.map trC).length by rw[List.length_map,h.lenT];exact h1)
  obtain⟨hi,v,e⟩:=Fe h e0
  rw[e0,e]
  refine decide_eq_true (B1.2 ?_)
  rw[DS.trk,List.getD,List.getElem?_eq_getElem h1,Option.getD_some] at h2
  exact h2
theorem track_all (h:TrB M w s tv ts) (pv sv:Value) (id:Int) :
  Calls Tryz.prog 203 #[dsV s pv tv sv,.int .i64 id] w (Ax w (.tuple #[.int .i64 (s.tAt id:Nat),.bool (s.hasT id)])):=by
 have l2:=h.few
 rw[← hasT_bs' h id]
 have HL:=Aa ((Le.refl w).alloc (.cells #[.int .i64 s.mp,.int .i64 s.mt,.int .i64 s.ms,.int .i64 s.ml,pv,tv,sv] 62))
 have HX:=Aa (heap_alloc_new w (.cells #[.int .i64 s.mp,.int .i64 s.mt,.int .i64 s.ms,.int .i64 s.ml,pv,tv,sv] 62))
 have HB:=Aa (h.le HL.out)
 have HBS:=Aa (fun (W:World) (hW:Le (w.alloc (.cells #[.int .i64 s.mp,.int .i64 s.mt,.int .i64 s.ms,.int .i64 s.ml,pv,tv,sv] 62)) W)=>bs_trk (w:=W) ((h.le (HL.out.trans hW)).hT) (by rw[List.length_map,h.lenT];omega) (.int .i64 id) (233) #[] (Bt Tryz.func233 (by kernel_rfl) rfl) (cf1 id) (fun x W hx _=>by obtain⟨p,_,rfl⟩:=List.mem_map.1 hx;exact Hf _ _ _ _ p.1.id id rfl W) (s.tAt id) (by rw[List.length_map,h.lenT];exact tAt_le s id) (fun i x hx=>by obtain⟨hi,v,rfl⟩:=Fe h hx;exact (Bq Trk.id s.tracks h.so id i hi).trans Es.symm))
 obtain⟨R,hR⟩:∃ R,R=Ax w (.tuple #[.int .i64 (s.tAt id:Nat),.bool (bsF (cf1 id) (ts.map trC) (s.tAt id))]):=⟨_,rfl⟩
 rw[← hR]
 have HR:=Aa hR
 clear hR h
 show Calls Tryz.prog 203 #[.agg #[.int .i64 s.mp,.int .i64 s.mt,.int .i64 s.ms,.int .i64 s.ml,pv,tv,sv],.int .i64 id] w R
 go_enter Tryz.func203,Tryz.ntmps203
 go_upto_region 1 with fail
 generalize w.alloc (.cells #[.int .i64 s.mp,.int .i64 s.mt,.int .i64 s.ms,.int .i64 s.ml,pv,tv,sv] 62)=w1 at *
 generalize w.heap.size=gx at *
 have y0:w1.cell? ⟨gx,5,none⟩=some tv:=Ae HX.out 5
 go_wp2_with fail
 refine (HBS.out w1 (Le.refl _)).mono ?_
 rintro e w2 ⟨rfl,hb2⟩
 have HL2:=Aa (HL.out.trans (Le.mk hb2))
 clear hb2
 go_wp2_with fail
 rw[HR.out]
 exact⟨rfl,HL2.out.out⟩
end
section
variable {M M':Nat→Prop} {w w' w'':World} {a:Nat} {s:DS} {pv tv sv:Value} {ts:List (Trk×Value)}
theorem drop1_any (h:TrB M w s tv ts) (pv sv:Value) (b:Nat) (ha:w.heap[a]?=some (.cells #[.int .i64 s.mp,.int .i64 s.mt,.int .i64 s.ms,.int .i64 s.ml,pv,tv,sv] 62 (0,0))) (hb:w.heap[b]?=some (.cells #[.pointer (some ⟨a,0,none⟩)] 391 (0,0))) (x:Sub):Calls Tryz.prog 231 #[.agg (BC x).toArray,.pointer (some ⟨b,0,none⟩)] w (Ax w (.bool (!s.hasT x.track))):=by
 have HL:=Aa ((Le.refl w).alloc (.cells #[.int .i64 x.who,.int .i64 x.track,.int .i64 x.layer,.int .i64 x.tid,.bool x.muted] 133))
 have HX:=Aa (heap_alloc_new w (.cells #[.int .i64 x.who,.int .i64 x.track,.int .i64 x.layer,.int .i64 x.tid,.bool x.muted] 133))
 have HT:=Aa h
 have HA:=Aa ha
 have HB:=Aa hb
 obtain⟨R,hR⟩:∃ R,R=Ax w (.bool (!s.hasT x.track)):=⟨_,rfl⟩
 rw[← hR]
 have HR:=Aa hR
 clear hR h ha hb
 show Calls Tryz.prog 231 #[.agg #[.int .i64 x.who,.int .i64 x.track,.int .i64 x.layer,.int .i64 x.tid,.bool x.muted],.pointer (some ⟨b,0,none⟩)] w R
 go_enter Tryz.func231,Tryz.ntmps231
 go_upto_region 1 with fail
 generalize w.alloc (.cells #[.int .i64 x.who,.int .i64 x.track,.int .i64 x.layer,.int .i64 x.tid,.bool x.muted] 133)=w1 at *
 generalize w.heap.size=gx at *
 have HL1:=Aa (HL.out.trans (Le.refl w1).drew)
 have HT1:=Aa (HT.out.le HL1.out)
 have HA1:=Aa (HL1.out.heap HA.out)
 have HB1:=Aa (HL1.out.heap HB.out)
 have HX1:=Aa ((Le.refl w1).drew.heap HX.out)
 refine' Aj 10 6 7 Le (Is _::Is _::Is _::Is _::Is _::Is _::Is _::Is _::Is _::Is _::[]) ([]::[0]::[1]::[]::[3]::[2,4]::[5]::[6]::[6]::[7]::[]) (by kernel_rfl) (by kernel_rfl) (by rfl) (by kernel_rfl) (by kernel_rfl) Le.refl (fun _ _ _ h h'=>h.trans h') ⟨St.is,St.is,St.is,St.is,St.is,St.is,St.is,St.is,St.is,St.is,trivial⟩ ?m1
 case m1 =>
  simp (maxSteps:=100000000) only [AR,Bv,AK,AC,An,AD,Am,Au,Act.put,List.setIfInBounds_toArray,List.set_cons_succ,List.set_cons_zero,List.getElem?_cons_zero,List.getElem?_cons_succ,List.take_succ_cons,List.take_zero,List.drop_succ_cons,List.drop_zero,List.cons_append,List.nil_append,List.length_cons,List.length_nil,Nat.reduceAdd]
  intro x0 x1 x2 x3 x4 x5 x6 x7 x8 x9
  refine⟨⟨?_,?_,?_,?_,?_,?_,?_,?_,?_,?_,trivial⟩,?_⟩
  ·intro wo hw KQ hK;have kk:=Af (hw.heap HB1.out) 0 (.pointer (some ⟨a,0,none⟩)) rfl wo (Le.refl _);go_simp;exact hK _ _ .r .m
  ·intro wo hw h0 KQ hK;cases h0;go_simp;exact hK _ _ .r .m
  ·intro wo hw h1 KQ hK;cases h1;refine cast (if_pos (show Region.wanted _ _=true from rfl)).symm ?_;have hz:=(hw.heap HA1.out);refine Av 62 (.tmp 8) rfl (cs:=[.int .i64 s.mp,.int .i64 s.mt,.int .i64 s.ms,.int .i64 s.ml,pv,tv,sv]) _ rfl Tryz.underlying62 rfl (by kernel_rfl) hz ?_;exact hK _ _ .r .m
  ·intro wo hw KQ hK;go_simp;exact hK _ _ .r .m
  ·intro wo hw h3 KQ hK;cases h3;have kk:=Af (hw.heap HX1.out) 1 (.int .i64 x.track) rfl wo (Le.refl _);go_simp;exact hK _ _ .r .m
  ·intro wo hw h2 h4 KQ hK;cases h2;cases h4;go_simp;refine (track_all (HT1.out.le hw) pv sv _).mono ?_;rintro e w' ⟨rfl,hb⟩;exact hK _ _ (Le.mk hb) (Is.mk _ _)
  ·intro wo hw h5 KQ hK;cases h5;go_simp;exact hK _ _ .r .m
  ·intro wo hw h6 KQ hK;cases h6;go_simp;exact hK _ _ .r .m
  ·intro wo hw h6 KQ hK;cases h6;go_simp;exact hK _ _ .r .m
  ·intro wo hw h7 KQ hK;cases h7;go_simp;exact hK _ _ .r .m
  ·intro wz hz h0 h1 h2 h3 h4 h5 h6 h7 h8 h9;cases h0;cases h1;cases h2;cases h3;cases h4;cases h5;cases h6;cases h7;cases h8;cases h9;skip
   have HLZ:=Aa (HL1.out.trans hz)
   clear HT1 HA1 HB1 HX1 HX HL HL1 hz
   cases hT:s.hasT x.track
   ·have HE:=Aa hT
    clear hT
    go_wp2_with fail
    rw[HR.out,HE.out]
    exact⟨rfl,HLZ.out.out⟩
   ·have HE:=Aa hT
    clear hT
    go_wp2_with fail
    rw[HR.out,HE.out]
    exact⟨rfl,HLZ.out.out⟩
end
section
open Classical in
noncomputable def ofC {α:Type} (f:α→List Value) (p:α→Bool) (c:List Value):Bool:=decide (∃ x,f x=c∧p x=true)
theorem FU {α:Type} {f:α→List Value} (hf:∀ x y,f x=f y→x=y) (p:α→Bool) (x:α):ofC f p (f x)=p x:=by
 classical
 rw[ofC]
 cases hp:p x
 ·rw[decide_eq_false_iff_not]
  rintro⟨y,e,h⟩
  rw[hf y x e,hp] at h
  cases h
 ·rw[decide_eq_true_iff]
  exact⟨x,rfl,hp⟩
theorem CI (x y:Sub) (h:BC x=BC y):x=y:=by
 cases x;cases y
 simp only[BC,List.cons.injEq,Value.int.injEq,Value.bool.injEq,and_true,true_and] at h
 obtain⟨rfl,rfl,rfl,rfl,rfl⟩:=h
 rfl
theorem Hj (x y:Per) (h:Ds x=Ds y):x=y:=by
 cases x;cases y
 simp only[Ds,List.cons.injEq,Value.int.injEq,and_true,true_and] at h
 obtain⟨rfl,rfl,rfl⟩:=h
 rfl
theorem CB {α:Type} {f:α→List Value} (hf:∀ x y,f x=f y→x=y) (p:α→Bool) (l:List α):((l.map f).filter fun c=>!ofC f p c)=(l.filter fun x=>!p x).map f:=by
 rw[List.filter_map]
 congr 1
 refine List.filter_congr fun x _=>?_
 show (!ofC f p (f x))=!p x
 rw[FU hf]
theorem FI {s:DS} {ts:List (Trk×Value)} (he:ts.map (·.1)=s.tracks) (ho:s.tracks.Pairwise fun a b=>a.id<b.id) (p:Trk→Bool):((ts.map trC).filter fun c=>!Ev ts p c)=(ts.filter fun t=>!p t.1).map trC:=by
 rw[List.filter_map]
 congr 1
 refine List.filter_congr fun x hx=>?_
 show (!Ev ts p (trC x))=!p x.1
 rw[Df he ho p hx]
theorem Fp.gn {M:Nat→Prop} {w w' w'':World} (h:Fp M w w') (h':Fp (Gn M w) w' w''):Fp M w w'' :=
 ⟨h'.os.trans h.os,h'.tape.trans h.tape,h'.output.trans h.output,Nat.le_trans h.size h'.size,fun k hk hm=>(h'.block k (Nat.lt_of_lt_of_le hk h.size) (fun g=>g.elim hm fun h2=>by omega)).trans (h.block k hk hm)⟩
def DropP (M:Nat→Prop) (w:World) (a:Nat) (s':DS) (e:Ending) (w':World):Prop :=
 (∃ v,e=.returned v)∧(∃ pv tv sv ts,DtB (Gn M w) w' a s' pv tv sv ts)∧Fp M w w'
section
variable {M M':Nat→Prop} {w w' w'':World} {a:Nat} {s:DS} {pv tv sv:Value} {ts:List (Trk×Value)}
theorem Hh (h:DtB M w a s pv tv sv ts) (ho:s.tracks.Pairwise fun a b=>a.id<b.id) (n1:s.tracks.length≤1000) (n2:s.subs.length≤1000) (g:Nat) (cb:Array Value) (eg:∀ args w,(callFunc g args).run Tryz.prog w=.ok (.enter g args) w) (is:Trk→Bool)
  (hcall:∀ t∈ts,∀ W,Fp (fun k=>tv.ownBlock=some k) w W→Calls Tryz.prog g (#[.agg (trC t).toArray]++cb) W (Ax W (.bool (is t.1)))) :
  Calls Tryz.prog 201 #[.pointer (some ⟨a,0,none⟩),.func (.func g) #[] cb] w (DropP M w a (s.cut is)):=by
 have HDF:=Aa (fun (W0:World) (hW:Le w W0)=>df_trk (w:=W0) ((h.le hW).D.hT) (by rw[List.length_map,h.D.lenT];omega) g cb eg (Ev ts is) (fun _ W=>Fp (fun k=>tv.ownBlock=some k) W0 W) (fun _ _ _ h hf=>h.trans hf) (fun j x W hx hI=>by
  obtain⟨t,ht,rfl⟩:=List.mem_map.1 (List.mem_of_getElem? hx)
  rw[Df h.D.eT ho _ ht]
  refine (hcall t ht W ((Fp.of_le hW).trans hI)).mono ?_
  rintro e w' ⟨rfl,hb⟩
  exact⟨rfl,hI.trans (Fp.of_le (Le.mk hb)),KT.of_le (Le.mk hb)⟩) (Fp.refl _ _) (Ff h.D))
 have HFT:=Aa (FI h.D.eT ho is)
 have HTM:=Aa (show (ts.filter fun t=>!is t.1).map (·.1)=s.tracks.filter fun t=>!is t by rw[← h.D.eT,List.filter_map];rfl)
 have HN1:=Aa n1
 have HN2:=Aa n2
 have HO:=Aa ho
 have HL:=Aa ((Le.refl w).alloc (.cells #[.pointer (some ⟨a,0,none⟩)] 391))
 have HX:=Aa (heap_alloc_new w (.cells #[.pointer (some ⟨a,0,none⟩)] 391))
 have H0:=Aa h
 obtain⟨R,hR⟩:∃ R,R=DropP M w a (s.cut is):=⟨_,rfl⟩
 rw[← hR]
 have HR:=Aa hR
 clear hR h hcall n1 n2 ho
 go_enter Tryz.func201,Tryz.ntmps201
 go_upto_region 1 with fail
 generalize w.alloc (.cells #[.pointer (some ⟨a,0,none⟩)] 391)=w1 at *
 generalize w.heap.size=gx at *
 have HL1:=Aa (HL.out.trans (Le.refl w1).drew)
 have HD1:=Aa (H0.out.le HL1.out)
 have HX1:=Aa ((Le.refl w1).drew.heap HX.out)
 refine' AB 6 9 9 4 Le (Gr tv.ownBlock) (IsD _::IsD _::IsD _::IsD _::IsD _::IsD _::(fun _ v W=>Io M w1.drew 182 4 tv.ownBlock ((ts.map trC).filter fun x=>!Ev ts is x) v W)::IsD _::IsD _::[]) ([]::[]::[1]::[2]::[3]::[]::[4,5]::[0]::[7]::[]) (by kernel_rfl) (by kernel_rfl) (by rfl) (by kernel_rfl) (by kernel_rfl) Le.refl (fun _ _ _ h h'=>h.trans h') (fun _ _ _ h h'=>h.trans h') (fun _ _ h=>Gr.of_le h) ⟨StQ.is,StQ.is,StQ.is,StQ.is,StQ.is,StQ.is,(fun _ _ _ _ h hb=>Io.le hb h),StQ.is,StQ.is,trivial⟩ ?m1
 case m1 =>
  simp (maxSteps:=100000000) only [AR,DU,Nat.reduceBEq,cond_true,cond_false,AU,AH,AE,B6,AD,Am,Au,List.set_cons_succ,List.set_cons_zero,List.map_cons,List.getElem?_cons_zero,List.getElem?_cons_succ,Option.getD_some,List.map_nil,List.take_succ_cons,List.take_zero,List.drop_succ_cons,List.drop_zero,List.cons_append,List.nil_append,List.length_cons,List.length_nil,Nat.reduceAdd]
  intro x0 x1 x2 x3 x4 x5 x6 x7 x8
  refine⟨⟨?_,?_,?_,?_,?_,?_,?_,?_,?_,trivial⟩,?_⟩
  ·intro wo hw KQ hK;have kk:=Af (hw.heap HX1.out (HD1.out.D.hT.row_ne HX1.out (by decide))) 0 (.pointer (some ⟨a,0,none⟩)) rfl wo (Le.refl _);go_simp;exact hK _ _ .r .m
  ·intro wo hw KQ hK;have kk:=Af (hw.heap HX1.out (HD1.out.D.hT.row_ne HX1.out (by decide))) 0 (.pointer (some ⟨a,0,none⟩)) rfl wo (Le.refl _);go_simp;exact hK _ _ .r .m
  ·intro wo hw h1 KQ hK;cases h1;go_simp;exact hK _ _ .r .m
  ·intro wo hw h2 KQ hK;cases h2;go_simp;exact hK _ _ .r .m
  ·intro wo hw h3 KQ hK;cases h3;have kk:=Af (hw.heap HD1.out.ha (HD1.out.D.hT.row_ne HD1.out.ha (by decide))) 5 (tv) rfl wo (Le.refl _);go_simp;exact hK _ _ .r .m
  ·intro wo hw KQ hK;go_simp;exact hK _ _ .r .m
  ·intro wo hw h4 h5 KQ hK;cases h4;cases h5;go_simp;refine (HDF.out wo (HL1.out.trans hw)).mono ?_;rintro e w' ⟨v',rfl,ho,hob,hI⟩;exact hK _ _ (Gr.of_fp hI) ⟨ho.mono (fun k _ hk=>.inl hk),(Gr.of_le hw).trans (Gr.of_fp hI)⟩
  ·intro wo hw h0 KQ hK;cases h0;go_simp;exact hK _ _ .r .m
  ·intro wo hw h7 KQ hK;cases h7;go_simp;exact hK _ _ .r .m
  ·intro wz hz h0 h1 h2 h3 h4 h5 h6 h7 h8;cases h0;cases h1;cases h2;cases h3;cases h4;cases h5;obtain⟨HI1,HI2⟩:=h6;cases h7;cases h8;skip
   have HF9:=Aa (Fp.of_gr HI2)
   have HO9:=Aa HI1
   have HA9:=Aa (HF9.out.heap HD1.out.ha (fun e=>HD1.out.D.hT.row_ne HD1.out.ha (by decide) e))
   have HXR:=Aa (HF9.out.heap HX1.out (fun e=>HD1.out.D.hT.row_ne HX1.out (by decide) e))
   have H1C:=Aa (AF HI1)
   clear HI1 HI2 HX
   go_upto_region 2 with (refine Ao rfl 59 (.tmp 12) (.tmp 10) rfl [.int .i64 s.mp,.int .i64 s.mt,.int .i64 s.ms,.int .i64 s.ml,pv] (v:=x6) (old:=tv) (post:=[sv]) rfl rfl (by kernel_rfl) H1C.out HA9.out ?_;intro w9 h9 hg9;have H9:=Aa h9;have HG9:=Aa hg9;clear h9 hg9)
   generalize x6=tv1 at *
   have HNT:=Aa (HD1.out.newTracks (ts':=ts.filter fun t=>!is t.1) HF9.out (by rw[← HFT.out];exact HO9.out) (fun t ht=>.inl (List.mem_filter.1 ht).1) HG9.out H9.out)
   rw[HTM.out] at HNT
   have HB9:=Aa (Ai HG9.out HXR.out (by intro e;injection e with e;exact AS HA9.out HXR.out (by decide) e))
   obtain⟨s1,hs1⟩:∃ s1,s1=s.setTracks (s.tracks.filter fun t=>!is t):=⟨_,rfl⟩
   have HTS:=Aa (show s1.tracks.length≤1000 by rw[hs1];exact Nat.le_trans (List.length_filter_le _ _) HN1.out)
   have HSS:=Aa (show s1.subs.length≤1000 by rw[hs1];exact HN2.out)
   have HSO:=Aa (show s1.tracks.Pairwise fun a b=>a.id<b.id by rw[hs1];exact HO.out.filter _)
   rw[← hs1] at HNT
   have HCUT:=Aa (show s1.setSubs (s1.subs.filter fun x=>!!s1.hasT x.track)=s.cut is by
    rw[hs1,show (fun x:Sub=>!!(s.setTracks (s.tracks.filter fun t=>!is t)).hasT x.track)=fun x:Sub=>(s.setTracks (s.tracks.filter fun t=>!is t)).hasT x.track from funext fun x=>Bool.not_not _];rfl)
   have HD9:=Aa (HNT.out.1.mono (M':=Gn M w) fun k _ hk=>hk.elim .inl fun hk=>.inr (Nat.le_trans HL1.out.size hk))
   have HF99:=Aa ((Fp.of_le HL1.out).trans HNT.out.2)
   have HDF2:=Aa (fun (W0:World) (hW:Le w9 W0)=>df_sub (w:=W0) ((HD9.out.le hW).D.hS) (by have:=HSS.out;rw[List.length_map];omega) 231 #[.pointer (some ⟨gx,0,none⟩)] (Bt Tryz.func231 (by kernel_rfl) rfl) (ofC BC fun y=>!s1.hasT y.track) (fun _ W=>Fp (fun k=>sv.ownBlock=some k) W0 W) (fun _ _ _ h hf=>h.trans hf) (fun j x W hx hI=>by
    obtain⟨y,hy,rfl⟩:=List.mem_map.1 (List.mem_of_getElem? hx)
    rw[FU CI]
    have hD:=HD9.out.le hW
    refine (drop1_any (w:=W) (M:=Gn M w) (s:=s1) ⟨hD.D.hT.keep hD.D.hS (by decide) hI,hD.D.eT,HSO.out,HTS.out⟩ pv sv gx (hI.heap hD.ha (fun e=>hD.D.hS.row_ne hD.ha (by decide) e)) (hI.heap (hW.heap HB9.out) (fun e=>hD.D.hS.row_ne (hW.heap HB9.out) (by decide) e)) y).mono ?_
    rintro e w' ⟨rfl,hb⟩
    exact⟨rfl,hI.trans (Fp.of_le (Le.mk hb)),KT.of_le (Le.mk hb)⟩) (Fp.refl _ _) (Cy s1))
   clear HNT HDF HFT HTM HD1 HX1 HF9 HO9 HA9 HXR H1C H9 HG9 hs1 HTS HSO
   have HD2:=Aa (HD9.out.le (Le.refl w9).drew)
   have HX2:=Aa ((Le.refl w9).drew.heap HB9.out)
   refine' AB 6 9 9 13 Le (Gr sv.ownBlock) (IsD _::IsD _::IsD _::IsD _::IsD _::IsD _::(fun _ v W=>Io (Gn M w) w9.drew 133 5 sv.ownBlock ((s1.subs.map BC).filter fun x=>!ofC BC (fun y=>!s1.hasT y.track) x) v W)::IsD _::IsD _::[]) ([]::[]::[1]::[2]::[3]::[]::[4,5]::[0]::[7]::[]) (by kernel_rfl) (by kernel_rfl) (by rfl) (by kernel_rfl) (by kernel_rfl) Le.refl (fun _ _ _ h h'=>h.trans h') (fun _ _ _ h h'=>h.trans h') (fun _ _ h=>Gr.of_le h) ⟨StQ.is,StQ.is,StQ.is,StQ.is,StQ.is,StQ.is,(fun _ _ _ _ h hb=>Io.le hb h),StQ.is,StQ.is,trivial⟩ ?m2
   case m2 =>
    simp (maxSteps:=100000000) only [AR,DU,Nat.reduceBEq,cond_true,cond_false,AU,AH,AE,B6,AD,Am,Au,List.set_cons_succ,List.set_cons_zero,List.map_cons,List.getElem?_cons_zero,List.getElem?_cons_succ,Option.getD_some,List.map_nil,List.take_succ_cons,List.take_zero,List.drop_succ_cons,List.drop_zero,List.cons_append,List.nil_append,List.length_cons,List.length_nil,Nat.reduceAdd]
    intro x0 x1 x2 x3 x4 x5 x6 x7 x8
    refine⟨⟨?_,?_,?_,?_,?_,?_,?_,?_,?_,trivial⟩,?_⟩
    ·intro wo hw KQ hK;have kk:=Af (hw.heap HX2.out (HD2.out.D.hS.row_ne HX2.out (by decide))) 0 (.pointer (some ⟨a,0,none⟩)) rfl wo (Le.refl _);go_simp;exact hK _ _ .r .m
    ·intro wo hw KQ hK;have kk:=Af (hw.heap HX2.out (HD2.out.D.hS.row_ne HX2.out (by decide))) 0 (.pointer (some ⟨a,0,none⟩)) rfl wo (Le.refl _);go_simp;exact hK _ _ .r .m
    ·intro wo hw h1 KQ hK;cases h1;go_simp;exact hK _ _ .r .m
    ·intro wo hw h2 KQ hK;cases h2;go_simp;exact hK _ _ .r .m
    ·intro wo hw h3 KQ hK;cases h3;have kk:=Af (hw.heap HD2.out.ha (HD2.out.D.hS.row_ne HD2.out.ha (by decide))) 6 (sv) rfl wo (Le.refl _);go_simp;exact hK _ _ .r .m
    ·intro wo hw KQ hK;go_simp;exact hK _ _ .r .m
    ·intro wo hw h4 h5 KQ hK;cases h4;cases h5;go_simp;refine (HDF2.out wo ((Le.refl w9).drew.trans hw)).mono ?_;rintro e w' ⟨v',rfl,ho,hob,hI⟩;exact hK _ _ (Gr.of_fp hI) ⟨ho.mono (fun k _ hk=>.inl hk),(Gr.of_le hw).trans (Gr.of_fp hI)⟩
    ·intro wo hw h0 KQ hK;cases h0;go_simp;exact hK _ _ .r .m
    ·intro wo hw h7 KQ hK;cases h7;go_simp;exact hK _ _ .r .m
    ·intro wz hz h0 h1 h2 h3 h4 h5 h6 h7 h8;cases h0;cases h1;cases h2;cases h3;cases h4;cases h5;obtain⟨HI1,HI2⟩:=h6;cases h7;cases h8;skip
     have HF9:=Aa (Fp.of_gr HI2)
     have HO9:=Aa HI1
     have HA9:=Aa (HF9.out.heap HD2.out.ha (fun e=>HD2.out.D.hS.row_ne HD2.out.ha (by decide) e))
     have H1C:=Aa (AF HI1)
     clear HI1 HI2
     go_wp2_with (refine Ao rfl 60 (.tmp 21) (.tmp 19) rfl [.int .i64 s1.mp,.int .i64 s1.mt,.int .i64 s1.ms,.int .i64 s1.ml,pv,tv1] (v:=x6) (old:=sv) (post:=[]) rfl rfl (by kernel_rfl) H1C.out HA9.out ?_;intro w7 h7 hg7;have H7:=Aa h7;have HG7:=Aa hg7;clear h7 hg7)
     rw[HR.out,← HCUT.out]
     refine bodyPost_end (results_none rfl _ _ _) rfl ?_
     obtain⟨h8,h9⟩:=HD2.out.newSubs (l:=s1.subs.filter fun x=>!!s1.hasT x.track) HF9.out (by rw[← CB CI];exact HO9.out) HG7.out H7.out
     refine⟨⟨_,rfl⟩,⟨_,_,_,_,h8.mono fun k _ hk=>?_⟩,?_⟩
     ·exact hk.elim _root_.id fun hk=>.inr (Nat.le_trans (Nat.le_trans HF99.out.size (Le.refl w9).drew.size) hk)
     ·exact (HF99.out.trans (Fp.of_le (Le.refl w9).drew)).gn h9
end
end
end Go.Proofs.YtmcndlofaanjiaaGreat
