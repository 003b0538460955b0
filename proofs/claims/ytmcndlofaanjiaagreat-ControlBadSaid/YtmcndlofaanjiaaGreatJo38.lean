/- Texts of one claim, laid together: ReqPut Lb3 Lb4 Awq -/
import Derived.Test.YtmcndlofaanjiaaGreatJo28
import Derived.Test.YtmcndlofaanjiaaGreatJo37
import Derived.Test.YtmcndlofaanjiaaGreatJo29
/- req.Put of a request that may be. -/
namespace Go.Proofs.YtmcndlofaanjiaaGreat
open Go.RowKit
set_option linter.unusedVariables false
set_option maxRecDepth 100000
set_option maxHeartbeats 8000000
theorem reqPut_ok (id:Nat) (q:Rq) (A:Option Addr) (n cap:Nat) (w:World) (hid:(id:Int)<18446744073709551616) (hr:RSl 1 Ix w q.ssrcs (.slice A n cap)) (h:q.ok=true) :
  Calls Tryz.prog 24 #[.int .u64 id,.agg #[.int .i64 q.kind,.int .i64 q.who,.int .i64 q.room,.int .i64 q.rights,.int .i64 q.track,.slice A n cap,.int .i64 q.layer,.int .i64 q.tid]] w (Owns8E w (q.bytes id) 0):=by
 have HID:=Aa hid
 have HR:=Aa hr
 obtain⟨A',cap',hv,hcap,hri⟩:=hr
 injection hv with e1 e2 e3
 subst e1 e2 e3
 have HRI:=Aa hri
 obtain⟨g1,g2,g3,g4,g5,g6,g7,g8⟩:=ok_parts h
 obtain⟨kind,who,room,rights,track,layer,tid,ssrcs⟩:=q
 simp only at *
 obtain⟨kind,rfl⟩:=Int.eq_ofNat_of_zero_le g1.1
 obtain⟨who,rfl⟩:=Int.eq_ofNat_of_zero_le g2.1
 obtain⟨room,rfl⟩:=Int.eq_ofNat_of_zero_le g3.1
 obtain⟨rights,rfl⟩:=Int.eq_ofNat_of_zero_le g4.1
 obtain⟨track,rfl⟩:=Int.eq_ofNat_of_zero_le g5.1
 obtain⟨layer,rfl⟩:=Int.eq_ofNat_of_zero_le g6.1
 obtain⟨tid,rfl⟩:=Int.eq_ofNat_of_zero_le g7.1
 have f1:Eu who 2=true:=by simp[Eu,Dt];omega
 have f2:Eu room 1=true:=by simp[Eu,Dt];omega
 have f3:Eu rights 1=true:=by simp[Eu,Dt];omega
 have f4:Eu track 2=true:=by simp[Eu,Dt];omega
 have f5:Eu layer 1=true:=by simp[Eu,Dt];omega
 have f6:Eu tid 1=true:=by simp[Eu,Dt];omega
 have f7:(ssrcs.length:Int)≤255:=by omega
 have k1:(kind:Int)≤9:=g1.2
 have k2:who<65536:=by omega
 have k3:room<256:=by omega
 have k4:rights<256:=by omega
 have k5:track<65536:=by omega
 have k6:layer<256:=by omega
 have k7:tid<256:=by omega
 clear hid hri h g1 g2 g3 g4 g5 g6 g7
 go_enter Tryz.func24,Tryz.ntmps24
 go_wp2_with (go_at_call 72;refine (Ho _ _ _ (by omega)).mono ?_;rintro e w' ⟨rfl,rfl⟩)
 have hq0:∀ W,Below (w.heap.size+1) (w.alloc (.cells #[.int .i64 kind,.int .i64 who,.int .i64 room,.int .i64 rights,.int .i64 track,.slice A ssrcs.length cap,.int .i64 layer,.int .i64 tid] 31)) W→W.heap[w.heap.size]?=some (.cells #[.int .i64 kind,.int .i64 who,.int .i64 room,.int .i64 rights,.int .i64 track,.slice A ssrcs.length cap,.int .i64 layer,.int .i64 tid] 31 (0,0)):=fun W h=>(h.block _ (Nat.lt_succ_self _)).trans (heap_alloc_new w _)
 have hq1:∀ W,Below (w.heap.size+1) (w.alloc (.cells #[.int .i64 kind,.int .i64 who,.int .i64 room,.int .i64 rights,.int .i64 track,.slice A ssrcs.length cap,.int .i64 layer,.int .i64 tid] 31)) W→W.cell? ⟨w.heap.size,1,none⟩=some (.int .i64 who):=fun W h=>Ae (hq0 W h) 1
 have hq2:∀ W,Below (w.heap.size+1) (w.alloc (.cells #[.int .i64 kind,.int .i64 who,.int .i64 room,.int .i64 rights,.int .i64 track,.slice A ssrcs.length cap,.int .i64 layer,.int .i64 tid] 31)) W→W.cell? ⟨w.heap.size,2,none⟩=some (.int .i64 room):=fun W h=>Ae (hq0 W h) 2
 have hq3:∀ W,Below (w.heap.size+1) (w.alloc (.cells #[.int .i64 kind,.int .i64 who,.int .i64 room,.int .i64 rights,.int .i64 track,.slice A ssrcs.length cap,.int .i64 layer,.int .i64 tid] 31)) W→W.cell? ⟨w.heap.size,3,none⟩=some (.int .i64 rights):=fun W h=>Ae (hq0 W h) 3
 have hq4:∀ W,Below (w.heap.size+1) (w.alloc (.cells #[.int .i64 kind,.int .i64 who,.int .i64 room,.int .i64 rights,.int .i64 track,.slice A ssrcs.length cap,.int .i64 layer,.int .i64 tid] 31)) W→W.cell? ⟨w.heap.size,4,none⟩=some (.int .i64 track):=fun W h=>Ae (hq0 W h) 4
 have hq5:∀ W,Below (w.heap.size+1) (w.alloc (.cells #[.int .i64 kind,.int .i64 who,.int .i64 room,.int .i64 rights,.int .i64 track,.slice A ssrcs.length cap,.int .i64 layer,.int .i64 tid] 31)) W→W.cell? ⟨w.heap.size,5,none⟩=some (.slice A ssrcs.length cap):=fun W h=>Ae (hq0 W h) 5
 have hq6:∀ W,Below (w.heap.size+1) (w.alloc (.cells #[.int .i64 kind,.int .i64 who,.int .i64 room,.int .i64 rights,.int .i64 track,.slice A ssrcs.length cap,.int .i64 layer,.int .i64 tid] 31)) W→W.cell? ⟨w.heap.size,6,none⟩=some (.int .i64 layer):=fun W h=>Ae (hq0 W h) 6
 have hq7:∀ W,Below (w.heap.size+1) (w.alloc (.cells #[.int .i64 kind,.int .i64 who,.int .i64 room,.int .i64 rights,.int .i64 track,.slice A ssrcs.length cap,.int .i64 layer,.int .i64 tid] 31)) W→W.cell? ⟨w.heap.size,7,none⟩=some (.int .i64 tid):=fun W h=>Ae (hq0 W h) 7
 clear hq0 f1 f2 f3 f4 f5 f6
 have hB:Below (w.heap.size+1) (w.alloc (.cells #[.int .i64 kind,.int .i64 who,.int .i64 room,.int .i64 rights,.int .i64 track,.slice A ssrcs.length cap,.int .i64 layer,.int .i64 tid] 31)) (((w.alloc (.cells #[.int .i64 kind,.int .i64 who,.int .i64 room,.int .i64 rights,.int .i64 track,.slice A ssrcs.length cap,.int .i64 layer,.int .i64 tid] 31)).alloc (.cells #[.int .u64 id,.int .i64 8] 193)).alloc (.cells #[.slice (some ⟨w.heap.size+1,0,none⟩) 1 1] 194)) :=
  ((Below.refl _ _).alloc (by simp) _).alloc (by simp) _
 have hP:Ei (((w.alloc (.cells #[.int .i64 kind,.int .i64 who,.int .i64 room,.int .i64 rights,.int .i64 track,.slice A ssrcs.length cap,.int .i64 layer,.int .i64 tid] 31)).alloc (.cells #[.int .u64 id,.int .i64 8] 193)).alloc (.cells #[.slice (some ⟨w.heap.size+1,0,none⟩) 1 1] 194)) (w.heap.size+1) (w.heap.size+2) [(id,8)]:=by
  refine⟨by omega,_,by simpa using heap_alloc_new ((w.alloc (.cells #[.int .i64 kind,.int .i64 who,.int .i64 room,.int .i64 rights,.int .i64 track,.slice A ssrcs.length cap,.int .i64 layer,.int .i64 tid] 31)).alloc (.cells #[.int .u64 id,.int .i64 8] 193)) _,rfl,.inr ⟨w.heap.size+1,1,_,rfl,Nat.le_refl _,heap_alloc (by simpa using heap_alloc_new (w.alloc (.cells #[.int .i64 kind,.int .i64 who,.int .i64 room,.int .i64 rights,.int .i64 track,.slice A ssrcs.length cap,.int .i64 layer,.int .i64 tid] 31)) _),by simp,by simp[maxLen],rfl,rfl⟩⟩
 refine (DE _ _ _ _ _ _ (by omega) hP (by simp)).mono ?_
 rintro e w1 ⟨rfl,hP1,hb1⟩
 have hB1:=hB.trans hb1
 clear hP hB hb1
 go_wp2_with (go_at_call 73;refine (DE _ _ _ _ _ _ (by omega) (by assumption) (by simp)).mono ?_;rintro e w1 ⟨rfl,hP1,hb1⟩;have hB1:=Below.trans (by assumption) hb1;clear hb1)
 obtain⟨hd,hhd⟩:∃ hd,hd=Rq.head id ⟨kind,who,room,rights,track,layer,tid,ssrcs⟩:=⟨_,rfl⟩
 have HH:=Aa hhd
 have hdl:hd.length=9:=by rw[hhd];rfl
 have hP9:Ei w1 (w.heap.size+1) (w.heap.size+2) hd:=by rw[hhd];simpa[Rq.head] using hP1
 have hB9:=hB1
 clear hhd hP1 hB1
 have hdb:∀ p∈hd,(p.1:Int)<18446744073709551616:=by
  rw[HH.out]
  intro p hp
  simp only[Rq.head,List.mem_cons,List.not_mem_nil,or_false] at hp
  have:=HID.out
  rcases hp with rfl | rfl | rfl | rfl | rfl | rfl | rfl | rfl | rfl<;>simp only[Int.toNat_natCast]<;>omega
 have HDB:=Aa hdb
 clear hdb
 go_loopw [100] (fun j wr=>∃ k:Nat,k≤ssrcs.length∧j=.int .i64 k∧Ei wr (w.heap.size+1) (w.heap.size+2) (hd++CS (ssrcs.take k))∧Below (w.heap.size+1) (w.alloc (.cells #[.int .i64 kind,.int .i64 who,.int .i64 room,.int .i64 rights,.int .i64 track,.slice A ssrcs.length cap,.int .i64 layer,.int .i64 tid] 31)) wr∧∀ p∈ssrcs.take k,(p:Int)<4294967296) (fun j _=>ssrcs.length - (intOf j).toNat)
 case atStart=>exact⟨0,Nat.zero_le _,rfl,by simpa[CS] using hP9,hB9,by simp⟩
 case round =>
  clear hP9 hB9
  obtain⟨k,hk,rfl,hP,hb,hall⟩:=hrel
  have HA:=Aa hall
  clear hall
  by_cases hlt:k<ssrcs.length
  ·obtain⟨b,off,rfl,hi⟩:=HRI.out (by rintro rfl;simp at hlt)
   obtain⟨cs,_,hcc,hR,hx⟩:=hi k hlt
   subst hR
   have hbb:b<w.heap.size:=B2 (show w.cell? ⟨b,off+k*1+0,none⟩=_ from hcc 0 (by omega))
   have c0:wr.cell? ⟨b,off+k,none⟩=some (.int .u32 ssrcs[k]):=by
    have h1:w.cell? ⟨b,off+k,none⟩=some (.int .u32 ssrcs[k]):=by simpa using hcc 0 (by omega)
    rw[hb.cell (p:=⟨b,off+k,none⟩) (Nat.lt_succ_of_lt hbb),World.cell?_alloc_lt w _ _ hbb,h1]
   have HT:=Aa (tail_take ssrcs k hlt)
   have HT2:=Aa (show ssrcs.take (k+1)=ssrcs.take k++[ssrcs[k]] from List.take_succ_eq_append_getElem hlt)
   have hx':=hx
   generalize ssrcs[k]=x at *
   have HX:=Aa hx'
   have hxn:x≤4294967295:=by omega
   have hbl:=Aa hb
   have htl:=D6 (ssrcs.take k)
   have htk:(ssrcs.take k).length≤k:=List.length_take_le _ _
   have hll:(hd++CS (ssrcs.take k)).length≤1000:=by rw[List.length_append,htl];omega
   have HLL:=Aa hll
   clear hcc hi hx hx' htl htk hll hbb hdl
   go_wp2_with fail
   refine (DE _ _ _ _ _ _ (by omega) hP HLL.out).mono ?_
   rintro e w2 ⟨rfl,hP2,hb2⟩
   have hb3:=hbl.out.trans hb2
   clear hP hb2
   go_wp2_with fail
   go_roundw
   case rel =>
    refine⟨k+1,by omega,by go_num,?_,hb3,?_⟩
    ·rw[HT.out,← List.append_assoc];exact hP2
    ·rw[HT2.out]
     intro p hp
     rcases List.mem_append.1 hp with hp | hp
     ·exact HA.out p hp
     ·obtain rfl:=List.mem_singleton.1 hp
      exact HX.out
   case measure=>simp[intOf];omega
  ·have hke:k=ssrcs.length:=by omega
   have HK:=Aa (show ssrcs.take k=ssrcs by rw[hke];exact List.take_length)
   rw[HK.out] at hP HA
   clear hke
   have hbd:∀ p∈hd++CS ssrcs,(p.1:Int)<18446744073709551616:=fun p hp=>by
    rcases List.mem_append.1 hp with hp | hp
    ·exact HDB.out p hp
    ·simp only[CS,List.mem_map] at hp
     obtain⟨a,ha,rfl⟩:=hp
     have:=HA.out a ha
     simp only;omega
   have hle:(hd++CS ssrcs).length≤65536:=by rw[List.length_append,D6];omega
   generalize hL:hd++CS ssrcs=L at hP hbd hle
   have HL:=Aa hL
   clear hL
   obtain⟨hbg,v,hg,hown⟩:=hP
   obtain⟨A8,cap8,rfl,hcap8,hc8⟩:=BF hown
   have c8:wr.cell? ⟨w.heap.size+2,0,none⟩=some (.slice A8 L.length cap8):=Ae hg 0
   have hrp:=Aa (F8 rfl hcap8 hbd hc8)
   have HLE:=Aa hle
   have HBB:=Aa ((((Below.refl w.heap.size w).alloc (Nat.le_refl _) (.cells #[.int .i64 kind,.int .i64 who,.int .i64 room,.int .i64 rights,.int .i64 track,.slice A ssrcs.length cap,.int .i64 layer,.int .i64 tid] 31)).trans (hb.mono (Nat.le_succ _))))
   clear hown hc8 hg hle hbg hbd
   go_wp2_with fail
   refine (put_any _ _ _ _ _ hrp.out HLE.out).mono ?_
   rintro e w9 ⟨v9,rfl,hown9,hb9⟩
   go_wp2_with fail
   go_ret2
   refine⟨_,rfl,?_,HBB.out.trans (hb9.mono HBB.out.size)⟩
   rw[Rq.bytes,← HH.out,HL.out]
   exact He hown9 HBB.out.size
structure Act where
 kind:Int
 id:Nat
 req:Rq
 raw:List UInt8
 shard:Int
def RAct:Rd Act:=fun w a cs=>∃ A1 c1 A2 c2,cs=[.int .i64 a.kind,.int .u64 a.id,.int .i64 a.req.kind,.int .i64 a.req.who,.int .i64 a.req.room,.int .i64 a.req.rights,.int .i64 a.req.track,.slice A1 a.req.ssrcs.length c1,.int .i64 a.req.layer,.int .i64 a.req.tid,.slice A2 a.raw.length c2,.int .i64 a.shard]∧RSl 1 Ix w a.req.ssrcs (.slice A1 a.req.ssrcs.length c1)∧RSl 1 RU8 w a.raw (.slice A2 a.raw.length c2)∧(A2=none→a.raw.length=0∧c2=0)∧a.id<18446744073709551616∧-9223372036854775808≤a.shard∧a.shard≤9223372036854775807
theorem FC:Ie RAct:=fun w w' x cs ⟨A1,c1,A2,c2,h1,h2,h3,h4⟩ hb=>⟨A1,c1,A2,c2,h1,h2.keep Dl hb,h3.keep BS hb,h4⟩
def Act.few (a:Act):Bool:=decide (a.req.ssrcs.length≤6)&&decide (a.raw.length≤100)
def fewA (l:List Act):Bool:=l.all Act.few&&decide (l.length≤200)
theorem fewA_bad (l:List Act) (k:Nat) (h:k<l.length) (hb:l[k].few=false):fewA l=false:=by
 rw[fewA,Bool.and_eq_false_iff]
 refine .inl ?_
 rw[List.all_eq_false]
 exact⟨l[k],List.getElem_mem h,by simp[hb]⟩
def Act.bytes (a:Act):List UInt8:=if a.req.ok=true∧a.kind≠3 then a.req.bytes a.id else a.raw
theorem few22_any (l:List Act) (A:Option Addr) (cap:Nat) (w:World) (hr:RSl 12 RAct w l (.slice A l.length cap)) (hl:l.length≤9223372036854775807):Calls Tryz.prog 11 #[.slice A l.length cap] w (Ax w (.bool (fewA l))):=by
 obtain⟨A',cap',hv,hcap,hi⟩:=hr
 injection hv with e1 e2 e3
 subst e1 e3
 have HI:=Aa hi
 clear hi e2
 obtain⟨R,hR⟩:∃ R,R=Ax w (.bool (fewA l)):=⟨_,rfl⟩
 rw[← hR]
 have HR:=Aa hR
 clear hR
 go_enter Tryz.func11,Tryz.ntmps11
 go_wp2_with fail
 go_loopw [3] (fun j wr=>∃ k:Nat,k≤l.length∧j=.int .i64 k∧Hd (∀ i (h:i<l.length),i<k→l[i].few=true)∧wr=w) (fun j _=>l.length - (intOf j).toNat)
 case atStart=>exact⟨0,Nat.zero_le _,rfl,Aa (fun i _ h=>by omega),rfl⟩
 case round =>
  obtain⟨k,hk,rfl,HN,hwr⟩:=hrel
  subst hwr
  by_cases hlt:k<l.length
  ·have hltI:(k:Int)<(l.length:Int):=by omega
   obtain⟨b,off,rfl,hg⟩:=HI.out (by rintro rfl;simp at hlt)
   obtain⟨cs,_,hc,A1,c1,A2,c2,hcs,_⟩:=hg k hlt
   subst hcs
   have HBAD:=Aa (fun hb=>fewA_bad l k hlt hb)
   have HGOOD:=Aa (fun (h:l[k].few=true)=>show ∀ i (h:i<l.length),i<k+1→l[i].few=true from fun i hi h'=>by
    by_cases e:i=k
    ·subst e;exact h
    ·exact HN.out i hi (by omega))
   generalize l[k]=a at *
   have k7:=hc 7 (by omega)
   have k10:=hc 10 (by omega)
   simp only[List.getElem?_cons_succ,List.getElem?_cons_zero] at k7 k10
   have q1:IntKind.i64.wrap ((k:Int)+1)=((k+1:Nat):Int):=by rw[IntWalk.i64_in _ (by omega)];simp
   clear hc hg
   by_cases h6:a.req.ssrcs.length≤6
   ·have i6:¬ 6<(a.req.ssrcs.length:Int):=by omega
    by_cases h100:a.raw.length≤100
    ·have i100:¬ 100<(a.raw.length:Int):=by omega
     have HOK:=Aa (show a.few=true by simp[Act.few,h6,h100])
     clear h6 h100
     go_wp2_with fail
     exact⟨⟨k+1,hlt,rfl,Aa (HGOOD.out HOK.out),by first | rfl | trivial⟩,by simp only[intOf];omega⟩
    ·have i100:100<(a.raw.length:Int):=by omega
     have HOK:=Aa (show a.few=false by simp[Act.few,h100])
     clear h6 h100
     go_wp2_with fail
     rw[HR.out]
     exact⟨by first | (rw[HBAD.out HOK.out];rfl) | rw[HBAD.out HOK.out],(Le.refl _).out⟩
   ·have i6:6<(a.req.ssrcs.length:Int):=by omega
    have HOK:=Aa (show a.few=false by simp[Act.few,h6])
    clear h6
    go_wp2_with fail
    rw[HR.out]
    exact⟨by first | (rw[HBAD.out HOK.out];rfl) | rw[HBAD.out HOK.out],(Le.refl _).out⟩
  ·have hgeI:¬ (k:Int)<(l.length:Int):=by omega
   have HALL:=Aa (show l.all Act.few=true from List.all_eq_true.2 fun x hx=>by
    obtain⟨i,hi,rfl⟩:=List.getElem_of_mem hx
    exact HN.out i hi (by omega))
   go_wp2_with fail
   rw[HR.out]
   refine⟨?_,(Le.refl _).out⟩
   rw[fewA,HALL.out,Bool.true_and]
   rw[show decide (l.length≤200)=decide ((l.length:Int)≤200) from decide_eq_decide.2 (by omega)]
def BytP (w:World) (b:List UInt8) (e:Ending) (w':World):Prop:=∃ A cap,e=.returned (.slice A b.length cap)∧RSl 1 RU8 w' b (.slice A b.length cap)∧(A=none→b.length=0∧cap=0)∧Le w w'
theorem BytP.own {w w':World} {l:List UInt8} {v:Value} {base:Nat} (h:w'.ownsRow base 5 1 v l.length (u8s l)) (hl:Le w w'):BytP w l (.returned v) w':=by
 have hr:=DA h
 have ho:=AA.of_base (ys:=l.map u8C) (by rw[Gs];exact h) (by rw[List.length_map]) (by intro y hy;obtain⟨p,_,rfl⟩:=List.mem_map.1 hy;rfl)
 obtain⟨A,cap,hv,_,hn,_⟩:=ho.cells
 rw[List.length_map] at hv
 subst hv
 exact⟨A,cap,rfl,hr,fun e=>by obtain⟨a,b⟩:=hn e;exact⟨by simpa using congrArg List.length a,b⟩,hl⟩
theorem reqPutE (id:Nat) (q:Rq) (A:Option Addr) (n cap:Nat) (w:World) (hid:(id:Int)<18446744073709551616) (hr:RSl 1 Ix w q.ssrcs (.slice A n cap)) :
  Calls Tryz.prog 24 #[.int .u64 id,.agg #[.int .i64 q.kind,.int .i64 q.who,.int .i64 q.room,.int .i64 q.rights,.int .i64 q.track,.slice A n cap,.int .i64 q.layer,.int .i64 q.tid]] w (Owns8E w (q.put id) q.err):=by
 cases h:q.ok with
 | true =>
  have:=reqPut_ok id q A n cap w hid hr h
  simpa[Rq.put,Rq.err,h] using this
 | false =>
  obtain⟨A',c',hv,_⟩:=hr
  injection hv with e1 e2 e3
  have:=Ir id q A n cap w e2 h
  simpa[Rq.put,Rq.err,h] using this
theorem GC (a:Act) (A1:Option Addr) (c1:Nat) (A2:Option Addr) (c2:Nat) (w:World) (h1:RSl 1 Ix w a.req.ssrcs (.slice A1 a.req.ssrcs.length c1)) (h2:RSl 1 RU8 w a.raw (.slice A2 a.raw.length c2)) (hn:A2=none→a.raw.length=0∧c2=0) (hid:a.id<18446744073709551616) :
  Calls Tryz.prog 16 #[.agg #[.int .i64 a.kind,.int .u64 a.id,.int .i64 a.req.kind,.int .i64 a.req.who,.int .i64 a.req.room,.int .i64 a.req.rights,.int .i64 a.req.track,.slice A1 a.req.ssrcs.length c1,.int .i64 a.req.layer,.int .i64 a.req.tid,.slice A2 a.raw.length c2,.int .i64 a.shard]] w (BytP w a.bytes):=by
 have HX:=Aa (heap_alloc_new w (.cells #[.int .i64 a.kind,.int .u64 a.id,.int .i64 a.req.kind,.int .i64 a.req.who,.int .i64 a.req.room,.int .i64 a.req.rights,.int .i64 a.req.track,.slice A1 a.req.ssrcs.length c1,.int .i64 a.req.layer,.int .i64 a.req.tid,.slice A2 a.raw.length c2,.int .i64 a.shard] 51))
 have HL:=Aa ((Le.refl w).alloc (.cells #[.int .i64 a.kind,.int .u64 a.id,.int .i64 a.req.kind,.int .i64 a.req.who,.int .i64 a.req.room,.int .i64 a.req.rights,.int .i64 a.req.track,.slice A1 a.req.ssrcs.length c1,.int .i64 a.req.layer,.int .i64 a.req.tid,.slice A2 a.raw.length c2,.int .i64 a.shard] 51))
 have HP:=Aa (fun W (hl:Le w W)=>reqPutE a.id a.req A1 a.req.ssrcs.length c1 W (by omega) (hl.rsl Dl h1))
 have H2:=Aa h2
 have HN:=Aa hn
 obtain⟨R,hR⟩:∃ R,R=BytP w a.bytes:=⟨_,rfl⟩
 rw[← hR]
 have HR:=Aa hR
 clear hR h1 h2 hn
 go_enter Tryz.func16,Tryz.ntmps16
 go_upto_region 1 with fail
 generalize World.alloc w _=w1 at *
 generalize w.heap.size=xa at *
 have k1:=Af HX.out 1 (.int .u64 a.id) rfl w1 (Le.refl _)
 go_wp2_with (refine CR rfl 31 (.tmp 8) rfl [.int .i64 a.kind,.int .u64 a.id] [.int .i64 a.req.kind,.int .i64 a.req.who,.int .i64 a.req.room,.int .i64 a.req.rights,.int .i64 a.req.track,.slice A1 a.req.ssrcs.length c1,.int .i64 a.req.layer,.int .i64 a.req.tid] [.slice A2 a.raw.length c2,.int .i64 a.shard] _ rfl Tryz.underlying31 rfl (by kernel_rfl) HX.out ?_)
 refine (HP.out w1 HL.out).mono ?_
 rintro e w2 ⟨v,rfl,ho,hb⟩
 have HO:=Aa ho
 have HL2:=Aa (HL.out.trans (Le.mk hb))
 have HX2:=Aa ((Le.mk hb).heap HX.out)
 clear ho hb k1 HX HL HP
 cases hok:a.req.ok with
 | true =>
  have e1:a.req.err=0:=by rw[Rq.err,hok];rfl
  have e2:a.req.put a.id=a.req.bytes a.id:=by rw[Rq.put,hok];rfl
  rw[e1]
  have k0:=Af HX2.out 0 (.int .i64 a.kind) rfl w2 (Le.refl _)
  have k10:=Af HX2.out 10 (.slice A2 a.raw.length c2) rfl w2 (Le.refl _)
  by_cases h3:a.kind=3
  ·have z3:(a.kind==3)=true:=by rw[beq_iff_eq];exact h3
   have HB:=Aa (show a.bytes=a.raw by rw[Act.bytes,if_neg (fun h=>h.2 h3)])
   clear e1 e2 h3
   go_wp2_with fail
   rw[HR.out,HB.out]
   exact⟨A2,c2,rfl,HL2.out.rsl BS H2.out,HN.out,HL2.out⟩
  ·have z3:(a.kind==3)=false:=by rw[beq_eq_false_iff_ne];exact h3
   have HB:=Aa (show a.bytes=a.req.bytes a.id by rw[Act.bytes,if_pos ⟨hok,h3⟩])
   rw[e2] at HO
   clear e1 e2 h3
   go_wp2_with fail
   rw[HR.out,HB.out]
   exact BytP.own HO.out HL2.out
 | false =>
  have e1:a.req.err=1:=by rw[Rq.err,hok];rfl
  rw[e1]
  have k10:=Af HX2.out 10 (.slice A2 a.raw.length c2) rfl w2 (Le.refl _)
  have HB:=Aa (show a.bytes=a.raw by rw[Act.bytes,if_neg (fun h=>by rw[hok] at h;exact absurd h.1 (by decide))])
  clear e1
  go_wp2_with fail
  rw[HR.out,HB.out]
  exact⟨A2,c2,rfl,HL2.out.rsl BS H2.out,HN.out,HL2.out⟩
structure Sz where
 shards:Nat
 intake:Nat
 window:Nat
 slots:Nat
 cmds:Nat
 subs:Nat
def Sz.cf (z:Sz):Cf:=⟨z.shards%4+1,z.intake%5+1,z.window%9+1,3⟩
def Sz.sl (z:Sz):Nat:=z.slots%9+1
def Sz.cm (z:Sz):Nat:=z.cmds%4+1
def Sz.ms (z:Sz):Nat:=z.subs%5+1
structure Sz.Ok (z:Sz):Prop where
 h1:z.shards<256
 h2:z.intake<256
 h3:z.window<256
 h4:z.slots<256
 h5:z.cmds<256
 h6:z.subs<256
def szV (z:Sz):Value:=.agg #[.int .u8 z.shards,.int .u8 z.intake,.int .u8 z.window,.int .u8 z.slots,.int .u8 z.cmds,.int .u8 z.subs]
theorem EW (z:Sz) (ok:z.Ok) (w:World):Calls Tryz.prog 13 #[szV z] w (Ax w (.tuple #[.agg #[.int .i64 z.cf.shards,.int .i64 z.cf.intake,.int .i64 z.cf.window,.int .i64 3,.int .i64 5,.int .i64 4,.int .i64 z.ms,.int .i64 z.sl],.int .i64 z.sl,.int .i64 z.cm])):=by
 obtain⟨hz1,hz2,hz3,hz4,hz5,hz6⟩:=ok
 have e1:((z.shards%4+1:Nat):Int)=((z.shards:Int)%4+1):=by omega
 have e2:((z.intake%5+1:Nat):Int)=((z.intake:Int)%5+1):=by omega
 have e3:((z.window%9+1:Nat):Int)=((z.window:Int)%9+1):=by omega
 have e4:((z.slots%9+1:Nat):Int)=((z.slots:Int)%9+1):=by omega
 have e5:((z.cmds%4+1:Nat):Int)=((z.cmds:Int)%4+1):=by omega
 have e6:((z.subs%5+1:Nat):Int)=((z.subs:Int)%5+1):=by omega
 show Calls Tryz.prog 13 #[.agg #[.int .u8 z.shards,.int .u8 z.intake,.int .u8 z.window,.int .u8 z.slots,.int .u8 z.cmds,.int .u8 z.subs]] w (Ax w (.tuple #[.agg #[.int .i64 ((z.shards%4+1:Nat):Int),.int .i64 ((z.intake%5+1:Nat):Int),.int .i64 ((z.window%9+1:Nat):Int),.int .i64 3,.int .i64 5,.int .i64 4,.int .i64 ((z.subs%5+1:Nat):Int),.int .i64 ((z.slots%9+1:Nat):Int)],.int .i64 ((z.slots%9+1:Nat):Int),.int .i64 ((z.cmds%4+1:Nat):Int)]))
 rw[e1,e2,e3,e4,e5,e6]
 clear e1 e2 e3 e4 e5 e6
 obtain⟨R,hR⟩:∃ R,R=Ax w (.tuple #[.agg #[.int .i64 ((z.shards:Int)%4+1),.int .i64 ((z.intake:Int)%5+1),.int .i64 ((z.window:Int)%9+1),.int .i64 3,.int .i64 5,.int .i64 4,.int .i64 ((z.subs:Int)%5+1),.int .i64 ((z.slots:Int)%9+1)],.int .i64 ((z.slots:Int)%9+1),.int .i64 ((z.cmds:Int)%4+1)]):=⟨_,rfl⟩
 rw[← hR]
 have HR:=Aa hR
 have HX0:=Aa (heap_alloc (o':=.cells #[.int .i64 0,.int .i64 0,.int .i64 0,.int .i64 0,.int .i64 0,.int .i64 0,.int .i64 0,.int .i64 0] 38) (heap_alloc_new w (.cells #[.int .u8 z.shards,.int .u8 z.intake,.int .u8 z.window,.int .u8 z.slots,.int .u8 z.cmds,.int .u8 z.subs] 23)))
 have hsz:(w.alloc (.cells #[.int .u8 z.shards,.int .u8 z.intake,.int .u8 z.window,.int .u8 z.slots,.int .u8 z.cmds,.int .u8 z.subs] 23)).heap.size=w.heap.size+1:=by show (w.heap.push _).size=_;rw[Array.size_push]
 have HY0:=Aa (heap_alloc_new (w.alloc (.cells #[.int .u8 z.shards,.int .u8 z.intake,.int .u8 z.window,.int .u8 z.slots,.int .u8 z.cmds,.int .u8 z.subs] 23)) (.cells #[.int .i64 0,.int .i64 0,.int .i64 0,.int .i64 0,.int .i64 0,.int .i64 0,.int .i64 0,.int .i64 0] 38))
 rw[hsz] at HY0
 have HL0:=Aa (((Le.refl w).alloc (.cells #[.int .u8 z.shards,.int .u8 z.intake,.int .u8 z.window,.int .u8 z.slots,.int .u8 z.cmds,.int .u8 z.subs] 23)).alloc (.cells #[.int .i64 0,.int .i64 0,.int .i64 0,.int .i64 0,.int .i64 0,.int .i64 0,.int .i64 0,.int .i64 0] 38))
 clear hR hsz
 go_enter Tryz.func13,Tryz.ntmps13
 go_upto_region 1 with fail
 generalize (w.alloc (.cells #[.int .u8 z.shards,.int .u8 z.intake,.int .u8 z.window,.int .u8 z.slots,.int .u8 z.cmds,.int .u8 z.subs] 23)).alloc (.cells #[.int .i64 0,.int .i64 0,.int .i64 0,.int .i64 0,.int .i64 0,.int .i64 0,.int .i64 0,.int .i64 0] 38)=w1 at *
 have k3:=Af HX0.out 3 (.int .u8 z.slots) rfl w1 (Le.refl _)
 go_upto_region 2 with fail
 clear k3
 generalize hxb:w.heap.size+1=xb at *
 generalize hxa:w.heap.size=xa at *
 have HXA:=Aa hxa
 have hne:xa≠xb:=by omega
 have hlb:xb<w1.drew.heap.size:=Ah HY0.out
 have hwb:w.heap.size≤xb:=by omega
 clear hxa hxb
 have ta0:((z.shards:Int).tmod 4)=(z.shards:Int)%4:=Int.tmod_eq_emod_of_nonneg (by omega)
 have tb0:IntKind.i64.wrap ((z.shards:Int)%4)=(z.shards:Int)%4:=IntWalk.i64_in _ (by omega)
 have tc0:IntKind.i64.wrap ((z.shards:Int)%4+1)=(z.shards:Int)%4+1:=IntWalk.i64_in _ (by omega)
 have ta1:((z.intake:Int).tmod 5)=(z.intake:Int)%5:=Int.tmod_eq_emod_of_nonneg (by omega)
 have tb1:IntKind.i64.wrap ((z.intake:Int)%5)=(z.intake:Int)%5:=IntWalk.i64_in _ (by omega)
 have tc1:IntKind.i64.wrap ((z.intake:Int)%5+1)=(z.intake:Int)%5+1:=IntWalk.i64_in _ (by omega)
 have ta2:((z.window:Int).tmod 9)=(z.window:Int)%9:=Int.tmod_eq_emod_of_nonneg (by omega)
 have tb2:IntKind.i64.wrap ((z.window:Int)%9)=(z.window:Int)%9:=IntWalk.i64_in _ (by omega)
 have tc2:IntKind.i64.wrap ((z.window:Int)%9+1)=(z.window:Int)%9+1:=IntWalk.i64_in _ (by omega)
 have ta3:((z.subs:Int).tmod 5)=(z.subs:Int)%5:=Int.tmod_eq_emod_of_nonneg (by omega)
 have tb3:IntKind.i64.wrap ((z.subs:Int)%5)=(z.subs:Int)%5:=IntWalk.i64_in _ (by omega)
 have tc3:IntKind.i64.wrap ((z.subs:Int)%5+1)=(z.subs:Int)%5+1:=IntWalk.i64_in _ (by omega)
 have ta4:((z.cmds:Int).tmod 4)=(z.cmds:Int)%4:=Int.tmod_eq_emod_of_nonneg (by omega)
 have tb4:IntKind.i64.wrap ((z.cmds:Int)%4)=(z.cmds:Int)%4:=IntWalk.i64_in _ (by omega)
 have tc4:IntKind.i64.wrap ((z.cmds:Int)%4+1)=(z.cmds:Int)%4+1:=IntWalk.i64_in _ (by omega)
 have HX1d:=Aa ((Le.refl w1).drew.heap HX0.out)
 have HX2d:=Aa ((Le.refl w1).drew.heap HY0.out)
 refine' Aj 31 29 11 (Rn [(xb,.cells #[.int .i64 ((z.shards:Int)%4+1),.int .i64 ((z.intake:Int)%5+1),.int .i64 ((z.window:Int)%9+1),.int .i64 3,.int .i64 5,.int .i64 4,.int .i64 ((z.subs:Int)%5+1),.int .i64 ((z.slots:Int)%9+1)] 38 (0,0))]) (Is _::Is _::Is _::Is _::Is _::Is _::Is _::Is _::Is _::Is _::Is _::Is _::Is _::Is _::Is _::Is _::Is _::Is _::Is _::Is _::Is _::Is _::Is _::Is _::Is _::Is _::Is _::Is _::Is _::(fun _ W=>W.heap[xb]?=some (Obj.cells #[.int .i64 ((z.shards:Int)%4+1),.int .i64 ((z.intake:Int)%5+1),.int .i64 ((z.window:Int)%9+1),.int .i64 3,.int .i64 5,.int .i64 4,.int .i64 ((z.subs:Int)%5+1),.int .i64 ((z.slots:Int)%9+1)] 38 (0,0)))::Is _::[]) ([]::[0]::[1]::[2]::[3]::[]::[5]::[6]::[7]::[8]::[]::[10]::[11]::[12]::[13]::[]::[15]::[16]::[17]::[18]::[]::[19,20]::[4,9,14,21]::[]::[]::[24]::[25]::[26]::[27]::[22]::[23]::[]) (by kernel_rfl) (by kernel_rfl) (by rfl) (by kernel_rfl) (by kernel_rfl) Rn.refl (fun _ _ _ h h'=>h.trans h') ⟨St.is,St.is,St.is,St.is,St.is,St.is,St.is,St.is,St.is,St.is,St.is,St.is,St.is,St.is,St.is,St.is,St.is,St.is,St.is,St.is,St.is,St.is,St.is,St.is,St.is,St.is,St.is,St.is,St.is,(fun _ _ _ h hk=>(h.in_ (p:=(xb,Obj.cells #[.int .i64 ((z.shards:Int)%4+1),.int .i64 ((z.intake:Int)%5+1),.int .i64 ((z.window:Int)%9+1),.int .i64 3,.int .i64 5,.int .i64 4,.int .i64 ((z.subs:Int)%5+1),.int .i64 ((z.slots:Int)%9+1)] 38 (0,0))) (by simp) hk).elim _root_.id _root_.id),St.is,trivial⟩ ?m2
 case m2 =>
  simp (maxSteps:=100000000) only [AR,Bv,AK,AC,An,AD,Am,Au,Act.put,List.setIfInBounds_toArray,List.set_cons_succ,List.set_cons_zero,List.getElem?_cons_zero,List.getElem?_cons_succ,List.take_succ_cons,List.take_zero,List.drop_succ_cons,List.drop_zero,List.cons_append,List.nil_append,List.length_cons,List.length_nil,Nat.reduceAdd]
  intro x0 x1 x2 x3 x4 x5 x6 x7 x8 x9 x10 x11 x12 x13 x14 x15 x16 x17 x18 x19 x20 x21 x22 x23 x24 x25 x26 x27 x28 x29 x30
  refine⟨⟨?_,?_,?_,?_,?_,?_,?_,?_,?_,?_,?_,?_,?_,?_,?_,?_,?_,?_,?_,?_,?_,?_,?_,?_,?_,?_,?_,?_,?_,?_,?_,trivial⟩,?_⟩
  ·intro wo hw KQ hK;go_simp;exact hK _ _ .r .m
  ·intro wo hw h0 KQ hK;cases h0;have kk:=Af (hw.heap HX1d.out (by simp<;>omega)) 0 (.int .u8 z.shards) rfl wo (Le.refl _);go_simp;exact hK _ _ .r .m
  ·intro wo hw h1 KQ hK;cases h1;go_simp;exact hK _ _ .r .m
  ·intro wo hw h2 KQ hK;cases h2;go_simp;exact hK _ _ .r .m
  ·intro wo hw h3 KQ hK;cases h3;go_simp;exact hK _ _ .r .m
  ·intro wo hw KQ hK;go_simp;exact hK _ _ .r .m
  ·intro wo hw h5 KQ hK;cases h5;have kk:=Af (hw.heap HX1d.out (by simp<;>omega)) 1 (.int .u8 z.intake) rfl wo (Le.refl _);go_simp;exact hK _ _ .r .m
  ·intro wo hw h6 KQ hK;cases h6;go_simp;exact hK _ _ .r .m
  ·intro wo hw h7 KQ hK;cases h7;go_simp;exact hK _ _ .r .m
  ·intro wo hw h8 KQ hK;cases h8;go_simp;exact hK _ _ .r .m
  ·intro wo hw KQ hK;go_simp;exact hK _ _ .r .m
  ·intro wo hw h10 KQ hK;cases h10;have kk:=Af (hw.heap HX1d.out (by simp<;>omega)) 2 (.int .u8 z.window) rfl wo (Le.refl _);go_simp;exact hK _ _ .r .m
  ·intro wo hw h11 KQ hK;cases h11;go_simp;exact hK _ _ .r .m
  ·intro wo hw h12 KQ hK;cases h12;go_simp;exact hK _ _ .r .m
  ·intro wo hw h13 KQ hK;cases h13;go_simp;exact hK _ _ .r .m
  ·intro wo hw KQ hK;go_simp;exact hK _ _ .r .m
  ·intro wo hw h15 KQ hK;cases h15;have kk:=Af (hw.heap HX1d.out (by simp<;>omega)) 5 (.int .u8 z.subs) rfl wo (Le.refl _);go_simp;exact hK _ _ .r .m
  ·intro wo hw h16 KQ hK;cases h16;go_simp;exact hK _ _ .r .m
  ·intro wo hw h17 KQ hK;cases h17;go_simp;exact hK _ _ .r .m
  ·intro wo hw h18 KQ hK;cases h18;go_simp;exact hK _ _ .r .m
  ·intro wo hw KQ hK;go_simp;exact hK _ _ .r .m
  ·intro wo hw h19 h20 KQ hK;cases h19;cases h20;go_simp;exact hK _ _ .r .m
  ·intro wo hw h4 h9 h14 h21 KQ hK;cases h4;cases h9;cases h14;cases h21;go_simp;exact hK _ _ .r .m
  ·intro wo hw KQ hK;go_simp;exact hK _ _ .r .m
  ·intro wo hw KQ hK;go_simp;exact hK _ _ .r .m
  ·intro wo hw h24 KQ hK;cases h24;have kk:=Af (hw.heap HX1d.out (by simp<;>omega)) 4 (.int .u8 z.cmds) rfl wo (Le.refl _);go_simp;exact hK _ _ .r .m
  ·intro wo hw h25 KQ hK;cases h25;go_simp;exact hK _ _ .r .m
  ·intro wo hw h26 KQ hK;cases h26;go_simp;exact hK _ _ .r .m
  ·intro wo hw h27 KQ hK;cases h27;go_simp;exact hK _ _ .r .m
  ·intro wo hw h22 KQ hK;cases h22;refine cast (if_pos (show Region.wanted _ _=true from rfl)).symm ?_;rcases hw.in_ (p:=(xb,Obj.cells #[.int .i64 ((z.shards:Int)%4+1),.int .i64 ((z.intake:Int)%5+1),.int .i64 ((z.window:Int)%9+1),.int .i64 3,.int .i64 5,.int .i64 4,.int .i64 ((z.subs:Int)%5+1),.int .i64 ((z.slots:Int)%9+1)] 38 (0,0))) (by simp) HX2d.out with ho | ho<;>(refine BD 38 (.tmp 2) (.tmp 33) rfl (cs:=[.int .i64 ((z.shards:Int)%4+1),.int .i64 ((z.intake:Int)%5+1),.int .i64 ((z.window:Int)%9+1),.int .i64 3,.int .i64 5,.int .i64 4,.int .i64 ((z.subs:Int)%5+1),.int .i64 ((z.slots:Int)%9+1)]) rfl rfl (by kernel_rfl) (by simp[Value.oneCell']) ho rfl ?_;intro w' h' hg';exact hK undef _ (Rn.store hg' (by simp) h' (by simp<;>omega) (by have:=hw.size;simp<;>omega)) h')
  ·intro wo hw h23 KQ hK;cases h23;go_simp;exact hK _ _ .r .m
  ·intro wz hz h0 h1 h2 h3 h4 h5 h6 h7 h8 h9 h10 h11 h12 h13 h14 h15 h16 h17 h18 h19 h20 h21 h22 h23 h24 h25 h26 h27 h28 h29 h30;cases h0;cases h1;cases h2;cases h3;cases h4;cases h5;cases h6;cases h7;cases h8;cases h9;cases h10;cases h11;cases h12;cases h13;cases h14;cases h15;cases h16;cases h17;cases h18;cases h19;cases h20;cases h21;cases h22;cases h23;cases h24;cases h25;cases h26;cases h27;cases h28;cases h30;skip
   have HR2:=Aa hz
   have HX3:=Aa h29
   clear hz
   go_wp2_with fail
   refine ret_ctt Tryz.results13 (Bb.mk' rfl HX3.out Tryz.underlying38 rfl (by kernel_rfl)) rfl rfl ?_
   rw[HR.out]
   exact⟨rfl,HR2.out.below (HL0.out.trans (Le.refl w1).drew).out (by simp;exact hwb) (HL0.out.trans (Le.refl w1).drew).size⟩
structure ScB (g:Nat→Nat) (X:CtX) (K:Nat→Prop) (w0 wr:World) (c a p b:Nat) (C:Ct (Nat×Nat)) (n:Nat):Prop where
 at_:Bg g wr c X C
 ar:X.ar=a
 pn:X.pn=p
 bd:X.bd=b
 z:∀ k,K k→g k=0∧k<wr.heap.size
 old:∀ k,k<w0.heap.size→K k
 le:Le w0 wr
 inv:Inv C n
def CP (K:Nat→Prop) (w0 wr:World) (c a p b:Nat) (C:Ct (Nat×Nat)) (n:Nat):Prop:=∃ g X,ScB g X K w0 wr c a p b C n
section
variable {g g':Nat→Nat} {X X':CtX} {K K':Nat→Prop} {w0 wr w':World} {c a p b:Nat} {C C':Ct (Nat×Nat)} {n m:Nat}
theorem ScB.step (h:ScB g X K w0 wr c a p b C n) (ht:Bj g wr c X g' w' X' C') (hi:Inv C' m):ScB g' X' K w0 w' c a p b C' m∧Fp (fun k=>¬ K k) wr w':=by
 have hf:Fp (fun k=>¬ K k) wr w':=ht.fp.mono fun k hk hK=>hk (h.z k hK).1
 refine⟨⟨ht.at_,ht.ar.trans h.ar,ht.pn.trans h.pn,ht.bd.trans h.bd,fun k hk=>⟨(ht.re k (h.z k hk).2).trans (h.z k hk).1,Nat.lt_of_lt_of_le (h.z k hk).2 ht.fp.size⟩,h.old,?_,hi⟩,hf⟩
 exact⟨⟨hf.os.trans h.le.out.os,hf.tape.trans h.le.out.tape,hf.output.trans h.le.out.output,Nat.le_trans h.le.out.size hf.size,fun k hk=>(hf.block k (Nat.lt_of_lt_of_le hk h.le.out.size) (fun e=>e (h.old k hk))).trans (h.le.out.block k hk)⟩⟩
theorem ScB.more (h:ScB g X K w0 wr c a p b C n) (hl:Le wr w'):ScB (Bn g wr.heap.size 0) X (fun k=>K k∨(wr.heap.size≤k∧k<w'.heap.size)) w0 w' c a p b C n:=by
 obtain⟨h1,_⟩:=h.step (h.at_.re 0 hl) h.inv
 refine⟨h1.at_,h1.ar,h1.pn,h1.bd,fun k hk=>?_,fun k hk=>.inl (h.old k hk),h1.le,h1.inv⟩
 rcases hk with hk | hk
 ·exact h1.z k hk
 ·exact⟨AM hk.1,hk.2⟩
theorem CP.more (h:CP K w0 wr c a p b C n) (hl:Le wr w'):CP (fun k=>K k∨(wr.heap.size≤k∧k<w'.heap.size)) w0 w' c a p b C n:=by
 obtain⟨g,X,h⟩:=h
 exact⟨_,X,h.more hl⟩
theorem CP.le0 (h:CP K w0 wr c a p b C n):Le w0 wr:=by obtain⟨g,X,h⟩:=h;exact h.le
theorem CP.inv (h:CP K w0 wr c a p b C n):Inv C n:=by obtain⟨g,X,h⟩:=h;exact h.inv
theorem CP.le (h:CP K w0 wr c a p b C n) (hl:Le wr w'):CP K w0 w' c a p b C n:=by
 obtain⟨g,X,h⟩:=h
 exact⟨g,X,(h.step (Bj.same h.at_ hl) h.inv).1⟩
def ScTo (K:Nat→Prop) (w0 wr:World) (c a p b:Nat) (C':Ct (Nat×Nat)) (m:Nat) (w':World):Prop:=CP K w0 w' c a p b C' m∧Fp (fun k=>¬ K k) wr w'
theorem scCall (h:CP K w0 wr c a p b C n) (k:Int) (bs:List UInt8) (A:Option Addr) (cap:Nat) (hr:RSl 1 RU8 wr bs (.slice A bs.length cap)) (hA:A=none→bs.length=0∧cap=0) (hl:bs.length≤1000) :
  Calls Tryz.prog 15 #[.pointer (some ⟨c,0,none⟩),.int .i64 k,.slice A bs.length cap] wr fun e w'=>e=.returned (.bool (C.call k bs).2)∧ScTo K w0 wr c a p b (C.call k bs).1 n w':=by
 obtain⟨g,X,h⟩:=h
 refine (ctCall h.at_ k bs A cap (by rw[Gs];exact Cx hr) hA (by omega)).mono ?_
 rintro e w' ⟨rfl,g',ht⟩
 obtain⟨h1,h2⟩:=h.step ht (h.inv.call k hl)
 exact⟨rfl,⟨g',X,h1⟩,h2⟩
theorem Fo (h:CP K w0 wr c a p b C n) (hn:n≤900):Calls Tryz.prog 17 #[.pointer (some ⟨c,0,none⟩)] wr fun e w'=>∃ p0 dv rv K',e=.returned (.tuple #[dv,rv])∧(∀ k,K k→K' k)∧Cg K' w' dv (C.accept (fun s=>(p0,s))).2.1∧AA K' w' 70 3 rv ((C.accept (fun s=>(p0,s))).2.2.map rpC)∧CP K' w0 w' c a p b (C.accept (fun s=>(p0,s))).1 (n+1)∧Fp (fun k=>¬ K k) wr w':=by
 obtain⟨g,X,h⟩:=h
 refine (ctAccept h.at_ h.inv.ok (by omega) h.inv.se (by have:=h.inv.nw;omega) h.inv.cl).mono ?_
 rintro e w' ⟨p0,dv,rv,g',X',rfl,hd,hr,ht⟩
 obtain⟨h1,h2⟩:=h.step ht (h.inv.accept p0)
 refine⟨p0,dv,rv,fun k=>K k∨(wr.heap.size≤k∧g' k=0∧k<w'.heap.size),rfl,fun k hk=>.inl hk,hd.mono fun k hk e=>.inr ⟨e.1,e.2,hk⟩,hr.mono fun k hk e=>.inr ⟨e.1,e.2,hk⟩,⟨g',X',h1.at_,h1.ar,h1.pn,h1.bd,fun k hk=>?_,fun k hk=>.inl (h.old k hk),h1.le,h1.inv⟩,h2⟩
 rcases hk with hk | hk
 ·exact h1.z k hk
 ·exact⟨hk.2.1,hk.2.2⟩
theorem F9 (h:CP K w0 wr c a p b C n) (hn:n≤900):Calls Tryz.prog 19 #[.pointer (some ⟨c,0,none⟩)] wr fun e w'=>∃ rv K',e=.returned rv∧(∀ k,K k→K' k)∧AA K' w' 70 3 rv (C.collect.2.map rpC)∧CP K' w0 w' c a p b C.collect.1 n∧Fp (fun k=>¬ K k) wr w':=by
 obtain⟨g,X,h⟩:=h
 refine (ctCollect h.at_ (by have:=h.inv.nw;omega) (fun wt hwt=>⟨h.inv.se.idb _ (h.inv.se.wait wt hwt),by have:=(h.inv.se.calls wt hwt).2;omega⟩)).mono ?_
 rintro e w' ⟨rv,X',rfl,hr,ht⟩
 obtain⟨h1,h2⟩:=h.step ht h.inv.collect
 refine⟨rv,fun k=>K k∨(wr.heap.size≤k∧k<w'.heap.size),rfl,fun k hk=>.inl hk,hr.mono fun k hk e=>.inr ⟨e,hk⟩,⟨_,X',h1.at_,h1.ar,h1.pn,h1.bd,fun k hk=>?_,fun k hk=>.inl (h.old k hk),h1.le,h1.inv⟩,h2⟩
 rcases hk with hk | hk
 ·exact h1.z k hk
 ·exact⟨AM hk.1,hk.2⟩
theorem scObey (h:CP K w0 wr c a p b C n) (hn:n≤900) {k:Nat} (hk:k<C.cf.shards) {na:Nat} (hna:na=C.board.q.length*C.board.room):Calls Tryz.prog 18 #[.agg #[.pointer (some ⟨c,0,none⟩),.pointer (some ⟨a,0,none⟩),.pointer (some ⟨p,0,none⟩),.pointer (some ⟨b,0,none⟩),.int .i64 na],.int .i64 k] wr fun e w'=>e=.returned (.bool (C.obey k).2)∧ScTo K w0 wr c a p b (C.obey k).1 n w':=by
 obtain⟨g,X,h⟩:=h
 have hb:=h.inv.bd
 have hep:=h.inv.ok.ep
 have hc:=ctObey h.at_ k (by rw[hb.sh];exact hk) (hb.pl.trans hb.sh.symm) (fun t ht=>by
  obtain⟨l,hl,htl⟩:=take_mem ht
  have:=hb.ep l hl t htl
  omega) hna
 rw[h.ar,h.pn,h.bd] at hc
 refine hc.mono ?_
 rintro e w' ⟨rfl,g',ht⟩
 obtain⟨h1,h2⟩:=h.step ht (h.inv.obey k)
 exact⟨rfl,⟨g',X,h1⟩,h2⟩
theorem scState (h:CP K w0 wr c a p b C n):Calls Tryz.prog 20 #[.pointer (some ⟨c,0,none⟩)] wr (EQ wr C.s):=by
 obtain⟨g,X,h⟩:=h
 exact ctState h.at_ h.inv.ok.fit.ok h.inv.ok.few
theorem Fr (h:CP K w0 wr c a p b C n):∃ o N,Calls Tryz.prog 21 #[.pointer (some ⟨c,0,none⟩)] wr (Ax wr (Cp o))∧TbO N wr o C.t∧∀ k,N k→¬ K k:=by
 obtain⟨g,X,h⟩:=h
 exact⟨X.tb,_,ctTable h.at_,h.at_.tb,fun k hk e=>by have h1:=(h.z k e).1;rw[show g k=8 from hk] at h1;cases h1⟩
theorem scLive (h:CP K w0 wr c a p b C n):Calls Tryz.prog 23 #[.pointer (some ⟨a,0,none⟩)] wr (Ax wr (.int .i64 (Ba C.slots))):=by
 obtain⟨g,X,h⟩:=h
 obtain⟨aB,h1,_⟩:=h.at_.ar
 have h2:=Hv h1
 rw[h.ar] at h2
 have e:Ba (C.slots.map slP)=Ba C.slots:=by
  rw[Ba,Ba,List.filter_map,List.length_map]
  congr 2
  funext s
  simp[slP]
 rw[e] at h2
 exact h2
theorem scIdle (h:CP K w0 wr c a p b C n):Calls Tryz.prog 29 #[.pointer (some ⟨c,0,none⟩)] wr (Ax wr (.bool (decide (C.calls.length=0)&&decide (C.waits.length=0)))):=by
 obtain⟨g,X,h⟩:=h
 exact ctIdle h.at_
end
theorem Inv.ct0 (cf:Cf) (mp mt ms ml slots cmds:Nat) (hs:1≤cf.shards∧cf.shards≤4) (hk:1≤cf.keep∧cf.keep≤4096) (h1:mp≤16) (h2:mt≤16) (h4:ml≤64) (hsl:slots≤64):Inv (ct0 cf mp mt ms ml slots cmds) 0:=by
 refine⟨⟨⟨hs.1,hs.2,hk.1,hk.2⟩,⟨DS.new_ok (by omega) (by omega) (by omega),List.Pairwise.nil,fun t ht=>(by cases ht)⟩,⟨(by show (mp:Int)≤16;omega),(by show (mt:Int)≤16;omega),(by show (ml:Int)≤64;omega)⟩,Nat.le_refl _,Nat.le_refl _,List.nodup_nil,fun x hx=>(by cases hx),fun y hy=>(by cases hy),fun y hy=>(by cases hy),List.nodup_nil,⟨fun y hy=>(by cases hy),fun x hx=>(by cases hx),List.nodup_nil,fun s hs=>?_,?_,?_⟩⟩,⟨List.nodup_nil,fun x hx=>(by cases hx),fun x hx=>(by cases hx),fun u hu=>(by cases hu),fun x hx=>(by cases hx),List.nodup_nil,fun u hu=>(by cases hu)⟩,Nat.le_refl _,fun x hx=>(by cases hx),⟨?_,?_,?_,fun l hl t ht=>?_⟩,Nat.zero_le _⟩
 ·rw[List.eq_of_mem_replicate (show s∈List.replicate slots ASl.zero from hs)]
  exact (by decide)
 ·show (List.replicate slots ASl.zero).length≤64
  rw[List.length_replicate]
  exact hsl
 ·show Ba (List.replicate slots ASl.zero)=0
  rw[Ba,List.filter_replicate]
  rfl
 ·exact List.length_replicate
 ·exact List.length_replicate
 ·exact List.length_replicate
 ·rw[List.eq_of_mem_replicate (show l∈List.replicate cf.shards [] from hl)] at ht
  cases ht
def awQ:Nat→Rq
 | 0=>⟨0,1,1,3,0,0,0,[]⟩
 | 1=>⟨2,1,0,0,2,0,0,[9]⟩
 | _=>⟨5,1,0,0,2,0,0,[]⟩
def awB (k:Nat):List UInt8:=(awQ k).bytes (k+10)
def awC:Ct (Nat×Nat):=ct0 ⟨2,5,9,3⟩ 5 4 3 4 4 3
def awN (p:Nat) (C:Ct (Nat×Nat)) (k:Nat):Ct (Nat×Nat)×List Dn1×List Rp:=(C.call k (awB k)).1.accept (fun s=>(p,s))
def awS (p:Nat):Nat→Ct (Nat×Nat)
 | 0=>awC
 | k+1=>(awN p (awS p k) k).1
def awT (p:Nat):Nat→Ct (Nat×Nat)
 | 0=>awS p 3
 | k+1=>((awT p k).obey (k%2)).1.collect.1
theorem awS_p (p p':Nat):awS p 2=awS p' 2:=by kernel_rfl
theorem aw_call (p:Nat):((awS p 0).call 0 (awB 0)).2=true∧((awS p 1).call 1 (awB 1)).2=true∧((awS p 2).call 2 (awB 2)).2=true:=⟨by kernel_rfl,by kernel_rfl,by kernel_rfl⟩
theorem G5 (p:Nat):(awN p (awS p 0) 0).2.1.map (fun d=>d.e)=[0]∧(awN p (awS p 0) 0).2.2.length=1:=⟨by kernel_rfl,by kernel_rfl⟩
theorem Hp (p:Nat):(awN p (awS p 1) 1).2.1.map (fun d=>d.e)=[0]∧(awN p (awS p 1) 1).2.2.length=0:=⟨by kernel_rfl,by kernel_rfl⟩
theorem GW (p:Nat):(awN p (awS p 2) 2).2.1.map (fun d=>d.e)=[0]∧(awN p (awS p 2) 2).2.2.length=0:=⟨by kernel_rfl,by kernel_rfl⟩
theorem aw_obey (p:Nat):((awT p 0).obey 0).2=true∧((awT p 1).obey 1).2=true∧((awT p 2).obey 0).2=true∧((awT p 3).obey 1).2=true:=⟨by kernel_rfl,by kernel_rfl,by kernel_rfl,by kernel_rfl⟩
theorem aw_coll (p:Nat):((awT p 0).obey 0).1.collect.2.length=0∧((awT p 1).obey 1).1.collect.2.length=1∧((awT p 2).obey 0).1.collect.2.length=0∧((awT p 3).obey 1).1.collect.2.length=1:=⟨by kernel_rfl,by kernel_rfl,by kernel_rfl,by kernel_rfl⟩
theorem aw_end (p:Nat):(awT p 4).calls.length=0∧(awT p 4).waits.length=0∧tbE (awT p 4).t=2∧Ba (awT p 4).slots=1:=⟨by kernel_rfl,by kernel_rfl,by kernel_rfl,by kernel_rfl⟩
end Go.Proofs.YtmcndlofaanjiaaGreat
