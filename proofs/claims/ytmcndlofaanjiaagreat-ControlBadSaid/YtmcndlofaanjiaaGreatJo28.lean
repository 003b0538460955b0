/- Texts of one claim, laid together: Ref1 Law1 Req ReqParse -/
import Derived.Deep.RegionLaw
import Derived.Test.YtmcndlofaanjiaaGreatJo03
import Derived.Test.YtmcndlofaanjiaaGreatJo02
import Derived.Test.YtmcndlofaanjiaaGreatJo04
/- The reference of layer 1,function by function. -/
namespace Go.Proofs.YtmcndlofaanjiaaGreat
open Go.RowKit
set_option linter.unusedVariables false
set_option maxRecDepth 100000
set_option maxHeartbeats 8000000
theorem slPart:SlT Tryz.prog 194 193 (.agg #[.int .u64 0,.int .i64 0]) 2 16:=⟨Tryz.underlying194,by kernel_rfl,rfl,by omega⟩
def Ix:Rd Nat:=fun _ n cs=>cs=[.int .u32 n]∧(n:Int)<4294967296
theorem Dl:Ie Ix:=fun _ _ _ _ h _=>h
theorem fits1 (x:Int) (w:World):Calls Tryz.prog 72 #[.int .i64 x,.int .i64 1] w fun e w'=>e=.returned (.bool (Dt x 256))∧w=w':=by
 by_cases h:0≤x
 ·rw[show Dt x 256=decide (x<256) by simp[Dt,h]]
  go_enter Tryz.func72,Tryz.ntmps72
  go_wp2
  go_ret
  exact⟨rfl,rfl⟩
 ·rw[show Dt x 256=false by simp[Dt,h]]
  go_enter Tryz.func72,Tryz.ntmps72
  go_wp2
  go_ret
  exact⟨rfl,rfl⟩
theorem fits2 (x:Int) (w:World):Calls Tryz.prog 72 #[.int .i64 x,.int .i64 2] w fun e w'=>e=.returned (.bool (Dt x 65536))∧w=w':=by
 by_cases h:0≤x
 ·rw[show Dt x 65536=decide (x<65536) by simp[Dt,h]]
  go_enter Tryz.func72,Tryz.ntmps72
  go_wp2
  go_ret
  exact⟨rfl,rfl⟩
 ·rw[show Dt x 65536=false by simp[Dt,h]]
  go_enter Tryz.func72,Tryz.ntmps72
  go_wp2
  go_ret
  exact⟨rfl,rfl⟩
@[irreducible] def Eu (x s:Int):Bool:=Dt x (if s=1 then 256 else 65536)
theorem Ho (x s:Int) (w:World) (h:s=1∨s=2):Calls Tryz.prog 72 #[.int .i64 x,.int .i64 s] w fun e w'=>e=.returned (.bool (Eu x s))∧w=w':=by
 rcases h with rfl | rfl
 ·unfold Eu
  exact fits1 x w
 ·unfold Eu
  exact fits2 x w
def Ei (w:World) (base g:Nat) (l:List (Nat×Int)):Prop :=
 base≤g∧∃ v,w.heap[g]?=some (.cells #[v] 194 (0,0))∧w.ownsRow base 193 2 v l.length (l.flatMap Fu)
theorem DE (w:World) (base g:Nat) (l:List (Nat×Int)) (x:Nat) (z:Int) (hx:x≤65536000000000) (h:Ei w base g l) (hl:l.length≤1000) :
  Calls Tryz.prog 73 #[.int .i64 x,.int .i64 z,.pointer (some ⟨g,0,none⟩)] w fun e w'=>e=.returned (.tuple #[])∧Ei w' base g (l++[(x,z)])∧Below base w w':=by
 obtain⟨hbg,v,hg,hown⟩:=h
 have HG:=Aa hg
 have hlt:=hown.lt
 have hne:v.ownBlock≠some g:=EO hown hg (by decide)
 obtain⟨A,cap,rfl,hcap,_⟩:=BF hown
 have c0:w.cell? ⟨g,0,none⟩=some (.slice A l.length cap):=by rw[Ae hg];rfl
 have f0:w.frozen? ⟨g,0,none⟩=false:=Ay hg 0
 have hbw:base≤w.heap.size:=Nat.le_of_lt (Nat.lt_of_le_of_lt hbg (Array.getElem?_eq_some_iff.1 hg).1)
 have hG1:=heap_alloc (o':=.cells #[.int .u64 x,.int .i64 z] 193) hg
 have HG1:=Aa hG1
 have HN:=Aa hne
 have HLT:=Aa hlt
 clear hg hG1 hne hlt
 go_enter Tryz.func73,Tryz.ntmps73
 go_wp2_with (first | (at_builtin;go_must (refine Ci rfl slPart (.tmp 5) (.tmp 10) rfl (hown.alloc _) rfl rfl (news:=Fu (x,z)) (Dq _ _ _) rfl ?h1 ?h2 ?h3 (AQ hbw) ?_);rotate_right;intro v1 w1 hown1 hg1 hat1;obtain⟨A1,cap1,rfl,hcap1,_⟩:=BF hown1;have HG2:=Aa (Ai hg1 HG1.out HN.out);have c2:w1.cell? ⟨g,0,none⟩=some (.slice A l.length cap):=Ae HG2.out 0;have f2:w1.frozen? ⟨g,0,none⟩=false:=Ay HG2.out 0;have HA:=Aa hat1;have HO:=Aa hown1;have HW:=Aa hg1;clear hat1 hg1))
 case h1=>simp[Fu,Value.oneCell']
 case h2=>omega
 case h3=>omega
 go_end0
 have hb1:Below base w w1:=(((Below.refl base w).alloc hbw _)).grown HW.out (AQ hbw) (fun k hk=>(HLT.out k hk).1)
 refine⟨rfl,⟨hbg,_,AG (i:=0) _ HG2.out,?_⟩,hb1.setCell hbg _⟩
 have hne:(Value.slice A1 (l.length+1) cap1).ownBlock≠some g:=by
  rcases HA.out with e | e
  ·rw[e];exact HN.out
  ·rw[e];intro e2;injection e2 with e2
   have h1:=(Array.getElem?_eq_some_iff.1 HG.out).1
   simp at e2;omega
 rw[List.length_append,List.flatMap_append]
 exact ownsRow_setCell_other (a:=⟨g,0,none⟩) HO.out hne _
def Owns8E (w:World) (l:List UInt8) (err:Int) (e:Ending) (w':World):Prop :=
 ∃ v,e=.returned (.tuple #[v,.int .i64 err])∧w'.ownsRow w.heap.size 5 1 v l.length (u8s l)∧Below w.heap.size w w'
theorem ok_of {q:Rq} (h1:0≤q.kind) (h2:q.kind≤9) (h3:Eu q.who 2=true) (h4:Eu q.room 1=true) (h5:Eu q.rights 1=true) (h6:Eu q.track 2=true) (h7:Eu q.layer 1=true) (h8:Eu q.tid 1=true) (h9:(q.ssrcs.length:Int)≤255):q.ok=true:=by
 simp[Eu,Dt] at h3 h4 h5 h6 h7 h8
 exact ok_mk (by omega)
theorem Ir (id:Nat) (q:Rq) (A:Option Addr) (n cap:Nat) (w:World) (hn:n=q.ssrcs.length) (h:q.ok=false) :
  Calls Tryz.prog 24 #[.int .u64 id,.agg #[.int .i64 q.kind,.int .i64 q.who,.int .i64 q.room,.int .i64 q.rights,.int .i64 q.track,.slice A n cap,.int .i64 q.layer,.int .i64 q.tid]] w (Owns8E w [] 1):=by
 subst hn
 have HB:=Aa h
 clear h
 obtain⟨kind,who,room,rights,track,layer,tid,ssrcs⟩:=q
 simp only
 go_enter Tryz.func24,Tryz.ntmps24
 go_wp2_with (go_at_call 72;refine (Ho _ _ _ (by omega)).mono ?_;rintro e w' ⟨rfl,rfl⟩)
 all_goals first | (go_ret2;exact⟨_,rfl,World.ownsRow_nil _ _ _ _,(Below.refl _ _).alloc (Nat.le_refl _) _⟩) | (exfalso;have h1:=ok_of (q:=⟨kind,who,room,rights,track,layer,tid,ssrcs⟩) (by assumption) (by assumption) (by assumption) (by assumption) (by assumption) (by assumption) (by assumption) (by assumption) (show ((ssrcs.length:Nat):Int)≤255 by omega);rw[HB.out] at h1;cases h1)
theorem BV (w:World) (base p g:Nat) (s:List UInt8×Int) (n:Nat) (hn:n≤4) (hg:w.heap[g]?=some (.cells #[.pointer (some ⟨p,0,none⟩)] 142 (0,0))) (h:BE w base p s.1 s.2) (hl:s.1.length≤2147483648) :
  Calls Tryz.prog 47 #[.int .i64 n,.pointer (some ⟨g,0,none⟩)] w fun e w'=>e=.returned (.int .i64 (nm s n))∧BE w' base p (stp s n).1 (stp s n).2∧w.grownBy w' (some p):=by
 have HT:=Aa (Fg w base p s.1 s.2 n h hl)
 have c0:w.cell? ⟨g,0,none⟩=some (.pointer (some ⟨p,0,none⟩)):=Ae hg 0
 have hv:nm s n<4294967296:=Nat.lt_of_lt_of_le (Fz s n (by omega)) (Nat.le_trans (Nat.pow_le_pow_right (by omega) hn) (by decide))
 clear hg h
 go_enter Tryz.func47,Tryz.ntmps47
 go_wp2_with fail
 refine HT.out.mono ?_
 rintro e w' ⟨hr,hc,hg⟩
 obtain rfl:e=.returned (.int .u64 (nm s n)):=hr
 have HC:=Aa hc;have HG:=Aa hg
 clear hc hg HT c0
 go_wp2
 go_ret
 exact⟨rfl,HC.out,HG.out⟩
theorem sl32:SlT Tryz.prog 29 110 (.int .u32 0) 1 4:=⟨Tryz.underlying29,by kernel_rfl,rfl,by omega⟩
def ParseP (w:World) (id:Nat) (q:Rq) (err:Int) (e:Ending) (w':World):Prop :=
 ∃ A cap,e=.returned (.tuple #[.int .u64 id,.agg #[.int .i64 q.kind,.int .i64 q.who,.int .i64 q.room,.int .i64 q.rights,.int .i64 q.track,.slice A q.ssrcs.length cap,.int .i64 q.layer,.int .i64 q.tid],.int .i64 err]) ∧
  RSl 1 Ix w' q.ssrcs (.slice A q.ssrcs.length cap)∧Below w.heap.size w w'
structure ER (w W:World) (p C:Nat) (s:List UInt8×Int):Prop where
 cut:BE W (w.heap.size+1) p s.1 s.2
 res:W.heap[w.heap.size]?=some (.cells #[.int .i64 0,.int .i64 0,.int .i64 0,.int .i64 0,.int .i64 0,.slice none 0 0,.int .i64 0,.int .i64 0] 31 (0,0))
 box:W.heap[C]?=some (.cells #[.pointer (some ⟨p,0,none⟩)] 142 (0,0))
 below:Below w.heap.size w W
section
variable {w W W':World} {p C:Nat} {s s':List UInt8×Int}
theorem ER.ne (h:ER w W p C s) {g:Nat} {cs:Array Value} {t:TypeId} {fr:Nat×Nat} (hg:W.heap[g]?=some (.cells cs t fr)) (ht:t≠265):some p≠some g:=by
 obtain⟨_,A,cap,hp,_⟩:=h.cut
 intro e
 injection e with e
 rw[e,hg] at hp
 injection hp with hp
 injection hp with _ hp _
 exact ht hp
theorem ER.step (h:ER w W p C s) (hg:W.grownBy W' (some p)) (hc:BE W' (w.heap.size+1) p s'.1 s'.2):ER w W' p C s' :=
 ⟨hc,Ai hg h.res (h.ne h.res (by decide)),Ai hg h.box (h.ne h.box (by decide)),AT h.below hg (Nat.le_of_succ_le h.cut.1) h.below.size⟩
theorem ER.alloc (h:ER w W p C s) (o:Obj):ER w (W.alloc o) p C s :=
 ⟨h.cut.keep ((Below.refl W.heap.size W).alloc (Nat.le_refl _) o) (Nat.le_refl _),heap_alloc h.res,heap_alloc h.box,h.below.alloc h.below.size o⟩
theorem ER.set_ (h:ER w W p C s) {g i:Nat} {cs:Array Value} {fr:Nat×Nat} (hg:W.heap[g]?=some (.cells cs 31 fr)) (hne:w.heap.size<g) (hC:C≠g) (u:Value):ER w (W.setCell ⟨g,i,none⟩ u) p C s :=
 ⟨h.cut.set_other hg (by decide) (by decide) u,AL u h.res (by omega),AL u h.box hC,h.below.setCell (Nat.le_of_lt hne) u⟩
theorem ER.grown (h:ER w W p C s) {row:Option Nat} (hg:W.grownBy W' row) (hr:∀ g cs t fr,row=some g→W.heap[g]?=some (.cells cs t fr)→t=110∧w.heap.size≤g) (hx:∀ g,row=some g→∃ cs t fr,W.heap[g]?=some (.cells cs t fr)):ER w W' p C s:=by
 have hne:∀ {g:Nat} {cs:Array Value} {t:TypeId} {fr:Nat×Nat},W.heap[g]?=some (.cells cs t fr)→t≠110→row≠some g:=by
  intro g cs t fr hh ht e
  exact ht (hr g cs t fr e hh).1
 obtain⟨hb,A,cap,hp,hc,hd⟩:=h.cut
 refine⟨⟨hb,A,cap,Ai hg hp (hne hp (by decide)),hc,fun hn=>?_⟩,Ai hg h.res (hne h.res (by decide)),Ai hg h.box (hne h.box (by decide)),h.below.grown hg h.below.size (fun k hk=>?_)⟩
 ·obtain⟨g,off,cur,h1,h2,h3,h4⟩:=hd hn
  exact⟨g,off,cur,h1,h2,Ai hg h3 (hne h3 (by decide)),h4⟩
 ·obtain⟨cs,t,fr,hh⟩:=hx k hk
  exact (hr k cs t fr hk hh).2
end
theorem ER.own {w W W':World} {p C:Nat} {s:List UInt8×Int} (h:ER w W p C s) {v:Value} (hg:W.grownBy W' v.ownBlock) {n:Nat} {xs:List Value} (ho:W.ownsRow w.heap.size 110 1 v n xs):ER w W' p C s:=by
 rcases ho.2 with ⟨rfl,_⟩ | ⟨g,cap,cur,rfl,hb,hh,_⟩
 ·exact h.grown hg (fun g cs t fr e=>by simp[Value.ownBlock] at e) (fun g e=>by simp[Value.ownBlock] at e)
 ·refine h.grown hg (fun g' cs t fr e hh'=>?_) (fun g' e=>?_)
  ·simp only[Value.ownBlock,Option.some.injEq] at e
   subst e
   rw[hh] at hh'
   injection hh' with hh'
   injection hh' with _ ht _
   exact⟨ht.symm,hb⟩
  ·simp only[Value.ownBlock,Option.some.injEq] at e
   subst e
   exact⟨_,_,_,hh⟩
def u32s (l:List Nat):List Value:=l.map fun (n:Nat)=>Value.int .u32 (n:Int)
def ns (l:List UInt8) (k:Nat):List Nat:=(List.range k).map fun i=>nm (Fw (q9 l) i) 4
theorem rsl_u32 {w:World} {base e k:Nat} {v:Value} {l:List Nat} (h:w.ownsRow base e 1 v k (u32s l)) (hb:∀ x∈l,x<4294967296):RSl 1 Ix w l v:=by
 obtain⟨A,cap,rfl,hc,hcc⟩:=BF h
 have hl:k=l.length:=by have:=h.1;simp[u32s] at this;omega
 refine DF (enc:=fun (n:Nat)=>[Value.int .u32 (n:Int)]) hl hc (fun _ _=>rfl) (fun x hx=>⟨rfl,by have:=hb x hx;omega⟩) (by omega) ?_
 rw[show l.flatMap (fun (n:Nat)=>[Value.int .u32 (n:Int)])=u32s l from (List.map_eq_flatMap ..).symm]
 exact hcc
theorem ns_lt (l:List UInt8) (k:Nat):∀ x∈ns l k,x<4294967296:=by
 intro x hx
 obtain⟨i,_,rfl⟩:=List.mem_map.1 hx
 exact Fz _ 4 (by omega)
theorem ns_length (l:List UInt8) (k:Nat):(ns l k).length=k:=by simp[ns]
def ParseO (w:World) (id:Nat) (q:Rq) (err:Int) (e:Ending) (w':World):Prop :=
 ∃ A cap,e=.returned (.tuple #[.int .u64 id,.agg #[.int .i64 q.kind,.int .i64 q.who,.int .i64 q.room,.int .i64 q.rights,.int .i64 q.track,.slice A q.ssrcs.length cap,.int .i64 q.layer,.int .i64 q.tid],.int .i64 err]) ∧
  RSl 1 Ix w' q.ssrcs (.slice A q.ssrcs.length cap)∧Below w.heap.size w w'∧w'.ownsRow w.heap.size 110 1 (.slice A q.ssrcs.length cap) q.ssrcs.length (u32s q.ssrcs)
theorem parseO_mk {w W:World} {id a b c d e f h k cap:Nat} {A:Option Addr} {S:List Nat} (hS:S.length=k) (hr:RSl 1 Ix W S (.slice A k cap)) (hb:Below w.heap.size w W.drew) (ho:W.ownsRow w.heap.size 110 1 (.slice A k cap) k (u32s S)) :
  ParseO w id ⟨a,b,c,d,e,f,h,S⟩ 0 (.returned (.tuple #[.int .u64 id,.agg #[.int .i64 a,.int .i64 b,.int .i64 c,.int .i64 d,.int .i64 e,.slice A k cap,.int .i64 f,.int .i64 h],.int .i64 0])) W.drew:=by
 subst hS
 exact⟨A,cap,rfl,hr.keep Dl (hk0),hb,ho⟩
theorem num_lt (l:List UInt8):∀ k,(Fw (q9 l) k).1.length≤(q9 l).1.length
 | 0=>Nat.le_refl _
 | k+1=>Nat.le_trans (B0 _ _) (num_lt l k)
theorem DJ (l:List UInt8) (A:Option Addr) (n cap:Nat) (w:World) (hr:RSl 1 RU8 w l (.slice A n cap)) (hl:l.length≤1000000) :
  Calls Tryz.prog 12 #[.slice A n cap] w (ParseO w (Eg l) (CK l) (De l)):=by
 have HR:=Aa hr
 clear hr
 have l1:(q1 l).1.length≤1000000:=Nat.le_trans (B0 _ _) hl
 have l2:(q2 l).1.length≤1000000:=Nat.le_trans (B0 _ _) l1
 have l3:(q3 l).1.length≤1000000:=Nat.le_trans (B0 _ _) l2
 have l4:(q4 l).1.length≤1000000:=Nat.le_trans (B0 _ _) l3
 have l5:(q5 l).1.length≤1000000:=Nat.le_trans (B0 _ _) l4
 have l6:(q6 l).1.length≤1000000:=Nat.le_trans (B0 _ _) l5
 have l7:(q7 l).1.length≤1000000:=Nat.le_trans (B0 _ _) l6
 have l8:(q8 l).1.length≤1000000:=Nat.le_trans (B0 _ _) l7
 have l9:(q9 l).1.length≤1000000:=Nat.le_trans (B0 _ _) l8
 go_enter Tryz.func12,Tryz.ntmps12
 go_wp2_with fail
 refine (new_any _ _ _ _ l (HR.out.alloc BS _) (by omega)).mono ?_
 rintro e w1 ⟨p,rfl,hc,hb⟩
 have hB:=((Below.refl w.heap.size w).alloc (Nat.le_refl _) _).trans (hb.mono (AQ (Nat.le_refl _)))
 have hres:=CJ hb (heap_alloc_new w _) (by simp)
 have hw1:w.heap.size<w1.heap.size:=by have:=hb.size;simp at this;omega
 have hP0:ER w (w1.alloc (.cells #[.pointer (some ⟨p,0,none⟩)] 142)) p w1.heap.size (l,0) :=
  ⟨(show BE w1 (w.heap.size+1) p l 0 by simpa using hc).keep ((Below.refl w1.heap.size w1).alloc (Nat.le_refl _) _) (Nat.le_refl _),heap_alloc hres,heap_alloc_new w1 _,hB.alloc hB.size _⟩
 clear hc hb hB hres
 go_wp2_with fail
 refine (Fg _ _ _ _ _ _ hP0.cut (show l.length≤2147483648 by omega)).mono ?_
 rintro e w2 ⟨he,hc2,hg2⟩
 obtain rfl:e=.returned (.int .u64 (nm (l,0) 8)):=he
 have hP1:=hP0.step (s':=q1 l) hg2 hc2
 have hbx:w2.cell? ⟨w1.heap.size,0,none⟩=some (.pointer (some ⟨p,0,none⟩)):=Ae hP1.box 0
 have hCl:w1.heap.size<w2.heap.size:=(Array.getElem?_eq_some_iff.1 hP1.box).1
 generalize w1.heap.size=C at *
 clear hc2 hg2 hP0
 go_wp2_with fail
 refine (BV _ _ _ _ (q1 l) 1 (by omega) hP1.box hP1.cut (by omega)).mono ?_
 rintro e w3 ⟨rfl,hc3,hg3⟩
 have hP2:=hP1.step (s':=q2 l) hg3 hc3
 have hQl:C<w3.heap.size:=Nat.lt_of_lt_of_le hCl hg3.size
 have hwl:w.heap.size<w3.heap.size:=Nat.lt_trans hw1 hQl
 have hP3:=hP2.alloc (.cells #[.int .i64 (nm (q1 l) 1),.int .i64 0,.int .i64 0,.int .i64 0,.int .i64 0,.slice none 0 0,.int .i64 0,.int .i64 0] 31)
 have hQ3:=heap_alloc_new w3 (.cells #[.int .i64 (nm (q1 l) 1),.int .i64 0,.int .i64 0,.int .i64 0,.int .i64 0,.slice none 0 0,.int .i64 0,.int .i64 0] 31)
 clear hP1 hP2 hc3 hg3 hbx hCl
 go_wp2_with fail
 generalize hQe:w3.heap.size=Q at *
 have HQe:=Aa hQe
 clear hQe
 refine (BV _ _ _ _ (q2 l) 2 (by omega) hP3.box hP3.cut (by omega)).mono ?_
 rintro e w4 ⟨rfl,hcs,hgs⟩
 have hPt:=hP3.step (s':=q3 l) hgs hcs
 have hQt:=Ai hgs hQ3 (hP3.ne hQ3 (by decide))
 have y0:w4.cell? ⟨Q,1,none⟩=some (.int .i64 0):=Ae hQt 1
 have y1:w4.frozen? ⟨Q,1,none⟩=false:=Ay hQt 1
 have hPs:=hPt.set_ (i:=1) hQt hwl (by omega) (.int .i64 (nm (q2 l) 2))
 have hQs:=AG (i:=1) (.int .i64 (nm (q2 l) 2)) hQt
 simp only[List.setIfInBounds_toArray,List.set_cons_zero,List.set_cons_succ] at hQs
 clear hPt hQt hcs hgs hP3 hQ3
 go_wp2_with fail
 clear y0 y1
 refine (BV _ _ _ _ (q3 l) 1 (by omega) hPs.box hPs.cut (by omega)).mono ?_
 rintro e w5 ⟨rfl,hcs,hgs⟩
 have hPt:=hPs.step (s':=q4 l) hgs hcs
 have hQt:=Ai hgs hQs (hPs.ne hQs (by decide))
 have y0:w5.cell? ⟨Q,2,none⟩=some (.int .i64 0):=Ae hQt 2
 have y1:w5.frozen? ⟨Q,2,none⟩=false:=Ay hQt 2
 have hPs:=hPt.set_ (i:=2) hQt hwl (by omega) (.int .i64 (nm (q3 l) 1))
 have hQs:=AG (i:=2) (.int .i64 (nm (q3 l) 1)) hQt
 simp only[List.setIfInBounds_toArray,List.set_cons_zero,List.set_cons_succ] at hQs
 clear hPt hQt hcs hgs
 go_wp2_with fail
 clear y0 y1
 refine (BV _ _ _ _ (q4 l) 1 (by omega) hPs.box hPs.cut (by omega)).mono ?_
 rintro e w6 ⟨rfl,hcs,hgs⟩
 have hPt:=hPs.step (s':=q5 l) hgs hcs
 have hQt:=Ai hgs hQs (hPs.ne hQs (by decide))
 have y0:w6.cell? ⟨Q,3,none⟩=some (.int .i64 0):=Ae hQt 3
 have y1:w6.frozen? ⟨Q,3,none⟩=false:=Ay hQt 3
 have hPs:=hPt.set_ (i:=3) hQt hwl (by omega) (.int .i64 (nm (q4 l) 1))
 have hQs:=AG (i:=3) (.int .i64 (nm (q4 l) 1)) hQt
 simp only[List.setIfInBounds_toArray,List.set_cons_zero,List.set_cons_succ] at hQs
 clear hPt hQt hcs hgs
 go_wp2_with fail
 clear y0 y1
 refine (BV _ _ _ _ (q5 l) 2 (by omega) hPs.box hPs.cut (by omega)).mono ?_
 rintro e w7 ⟨rfl,hcs,hgs⟩
 have hPt:=hPs.step (s':=q6 l) hgs hcs
 have hQt:=Ai hgs hQs (hPs.ne hQs (by decide))
 have y0:w7.cell? ⟨Q,4,none⟩=some (.int .i64 0):=Ae hQt 4
 have y1:w7.frozen? ⟨Q,4,none⟩=false:=Ay hQt 4
 have hPs:=hPt.set_ (i:=4) hQt hwl (by omega) (.int .i64 (nm (q5 l) 2))
 have hQs:=AG (i:=4) (.int .i64 (nm (q5 l) 2)) hQt
 simp only[List.setIfInBounds_toArray,List.set_cons_zero,List.set_cons_succ] at hQs
 clear hPt hQt hcs hgs
 go_wp2_with fail
 clear y0 y1
 refine (BV _ _ _ _ (q6 l) 1 (by omega) hPs.box hPs.cut (by omega)).mono ?_
 rintro e w8 ⟨rfl,hcs,hgs⟩
 have hPt:=hPs.step (s':=q7 l) hgs hcs
 have hQt:=Ai hgs hQs (hPs.ne hQs (by decide))
 have y0:w8.cell? ⟨Q,6,none⟩=some (.int .i64 0):=Ae hQt 6
 have y1:w8.frozen? ⟨Q,6,none⟩=false:=Ay hQt 6
 have hPs:=hPt.set_ (i:=6) hQt hwl (by omega) (.int .i64 (nm (q6 l) 1))
 have hQs:=AG (i:=6) (.int .i64 (nm (q6 l) 1)) hQt
 simp only[List.setIfInBounds_toArray,List.set_cons_zero,List.set_cons_succ] at hQs
 clear hPt hQt hcs hgs
 go_wp2_with fail
 clear y0 y1
 refine (BV _ _ _ _ (q7 l) 1 (by omega) hPs.box hPs.cut (by omega)).mono ?_
 rintro e w9 ⟨rfl,hcs,hgs⟩
 have hPt:=hPs.step (s':=q8 l) hgs hcs
 have hQt:=Ai hgs hQs (hPs.ne hQs (by decide))
 have y0:w9.cell? ⟨Q,7,none⟩=some (.int .i64 0):=Ae hQt 7
 have y1:w9.frozen? ⟨Q,7,none⟩=false:=Ay hQt 7
 have hPs:=hPt.set_ (i:=7) hQt hwl (by omega) (.int .i64 (nm (q7 l) 1))
 have hQs:=AG (i:=7) (.int .i64 (nm (q7 l) 1)) hQt
 simp only[List.setIfInBounds_toArray,List.set_cons_zero,List.set_cons_succ] at hQs
 clear hPt hQt hcs hgs
 go_wp2_with fail
 clear y0 y1
 refine (BV _ _ _ _ (q8 l) 1 (by omega) hPs.box hPs.cut (by omega)).mono ?_
 rintro e w10 ⟨rfl,hcs,hgs⟩
 have hPt:=hPs.step (s':=q9 l) hgs hcs
 have hQt:=Ai hgs hQs (hPs.ne hQs (by decide))
 clear hPs hQs hcs hgs
 go_wp2_with fail
 have h256:nm (q8 l) 1<256:=Fz (q8 l) 1 (by omega)
 have HS:=Aa (show ∀ k,(Fw (q9 l) k).1.length≤1000000 from fun k=>Nat.le_trans (num_lt l k) l9)
 have h0:0<1000000:=by omega
 clear l1 l2 l3 l4 l5 l6 l7 l8 l9 h0
 generalize hce:nm (q8 l) 1=cnt at h256 ⊢
 have HCE:=Aa hce
 clear hce
 go_loopw [38] (fun j wr=>∃ (k:Nat) (sv:Value),k≤cnt∧j=.int .i64 k∧ER w wr p C (Fw (q9 l) k) ∧
  wr.heap[Q]?=some (.cells #[.int .i64 (nm (q1 l) 1),.int .i64 (nm (q2 l) 2),.int .i64 (nm (q3 l) 1),.int .i64 (nm (q4 l) 1),.int .i64 (nm (q5 l) 2),sv,.int .i64 (nm (q6 l) 1),.int .i64 (nm (q7 l) 1)] 31 (0,0)) ∧
  wr.ownsRow w.heap.size 110 1 sv k (u32s (ns l k))) (fun j _=>cnt - (intOf j).toNat)
 case atStart=>exact⟨0,.slice none 0 0,Nat.zero_le _,rfl,hPt,hQt,World.ownsRow_nil _ _ _ _⟩
 case round =>
  clear hPt hQt
  obtain⟨k,sv,hk,rfl,hP,hQ,hown⟩:=hrel
  by_cases hlt:k<cnt
  ·have hv:nm (Fw (q9 l) k) 4<4294967296:=Fz (Fw (q9 l) k) 4 (by omega)
   have HXS:=Aa (show u32s (ns l (k+1))=u32s (ns l k)++[.int .u32 (nm (Fw (q9 l) k) 4)] by simp[u32s,ns,List.range_succ])
   have HP:=Aa hP;have HQ:=Aa (show wr.drew.heap[Q]?=_ from hQ);have HO:=Aa (show wr.drew.ownsRow w.heap.size 110 1 sv k (u32s (ns l k)) from hown)
   have HNP:=Aa (EO hown (show wr.heap[p]?=some (.cells _ 265 (0,0)) from hP.cut.2.choose_spec.choose_spec.1) (by decide))
   have HNQ:=Aa (EO hown hQ (by decide))
   have z5:wr.cell? ⟨Q,5,none⟩=some sv:=Ae hQ 5
   have HW:=Aa hP.below.size
   have HT:=Aa (BV wr.drew (w.heap.size+1) p C (Fw (q9 l) k) 4 (by omega) hP.box (show BE wr.drew (w.heap.size+1) p (Fw (q9 l) k).1 (Fw (q9 l) k).2 from hP.cut) (by have:=HS.out k;omega))
   have HPD:=Aa (show ER w wr.drew p C (Fw (q9 l) k) from ⟨hP.cut,hP.res,hP.box,hP.below.trans ((Below.refl _ _).drew)⟩)
   clear hP hQ hown
   generalize hx:nm (Fw (q9 l) k) 4=x at hv HXS HT
   have HX:=Aa hx
   have hwr:IntKind.u32.wrap ((x:Nat):Int)=x:=by simp[IntKind.wrap,IntKind.signed,IntKind.bits];omega
   clear hx
   go_wp2_with fail
   go_region_law (first | (go_simp;go_at_call 47;refine HT.out.mono ?_;rintro e w2 ⟨rfl,hc2,hg2⟩;have HP2:=Aa (HPD.out.step (s':=Fw (q9 l) (k+1)) hg2 hc2);have HO2:=Aa (HO.out.kept hg2 (Or.inr HNP.out));have HQ2:=Aa (Ai hg2 HQ.out (HPD.out.ne HQ.out (by decide)));have y5:=Ae HQ2.out 5;have y6:=fun o=>Ae (heap_alloc (o':=o) HQ2.out) 5;have HS2:=Aa hg2.size;clear hc2 hg2) | (refine step_app rfl sl32 (.tmp 41) (.tmp 45) rfl (HO2.out.alloc _) (by simp[Act.eval]) (some ⟨_,0,none⟩) 1 1 (by simp[Act.eval]) (news:=[.int .u32 x]) (Dq _ [.int .u32 x] _) rfl (by simp[Value.oneCell']) (by omega) (by omega) (AQ (Nat.le_trans HW.out HS2.out)) ?_;intro v3 w3 hown3 hg3 hat3;obtain⟨A3,cap3,rfl,_,_⟩:=BF hown3;have HP3:=Aa ((HP2.out.alloc _).own hg3 (HO2.out.alloc _));have HQ3:=Aa (Ai hg3 (heap_alloc HQ2.out) HNQ.out);have x5:=Ae HQ3.out 5;have x6:=Ay HQ3.out 5;have HO3:=Aa hown3;clear hown3 hg3 hat3))
   all_goals
    go_wp2_with fail
    go_roundw
    case rel =>
     have hQ4:=AG (i:=5) (.slice A3 (k+1) cap3) HQ3.out
     simp only[List.setIfInBounds_toArray,List.set_cons_zero,List.set_cons_succ] at hQ4
     refine⟨k+1,_,by omega,by go_num,HP3.out.set_ HQ3.out hwl (by omega) _,hQ4,?_⟩
     rw[HXS.out]
     exact ownsRow_setCell_other (a:=⟨Q,5,none⟩) HO3.out (EO HO3.out HQ3.out (by decide)) _
    case measure=>simp[intOf];omega
  ·have hke:k=cnt:=by omega
   subst hke
   have hend:Ip l=Fw (q9 l) k:=by rw[Ip,HCE.out]
   obtain⟨s,hs⟩:∃ s,s=Ip l:=⟨_,rfl⟩
   rw[← hend,← hs] at hP
   have hErr:De l=if s.2=0 then (if 9<((nm (q1 l) 1:Nat):Int) then 11 else if 0<s.1.length then 12 else 0) else s.2:=by rw[hs];rfl
   have hrq:rq l=⟨nm (q1 l) 1,nm (q2 l) 2,nm (q3 l) 1,nm (q4 l) 1,nm (q5 l) 2,nm (q6 l) 1,nm (q7 l) 1,ns l k⟩:=by rw[← HCE.out];rfl
   have HRQ:=Aa hrq
   obtain⟨l',e'⟩:=s
   have HC:=Aa hP.cut
   have hbx:wr.cell? ⟨C,0,none⟩=some (.pointer (some ⟨p,0,none⟩)):=Ae hP.box 0
   have fr:∀ i,wr.frozen? ⟨w.heap.size,i,none⟩=false:=fun i=>Ay hP.res i
   have d0:=Ae hQ 0
   have r0:=Ae hP.res 0;have r1:=Ae hP.res 1;have r2:=Ae hP.res 2;have r3:=Ae hP.res 3;have r4:=Ae hP.res 4;have r5:=Ae hP.res 5;have r6:=Ae hP.res 6;have r7:=Ae hP.res 7;
   have HB:=Aa hP.below
   have HQ:=Aa hQ;have HO:=Aa hown;have HRES:=Aa hP.res
   simp only[List.getElem?_toArray,List.getElem?_cons_zero,List.getElem?_cons_succ] at d0 r0 r1 r2 r3 r4 r5 r6 r7
   clear hP hQ hown hend hs hrq
   generalize nm (q1 l) 1=kd at *
   by_cases he:e'=0
   ·subst he
    by_cases h9:9<kd
    ·have HE:=Aa (show De l=11 by rw[hErr,if_pos rfl,if_pos (by omega)])
     clear hErr
     go_wp2_with (first | (go_at_call 48;refine (BE.err HC.out).mono ?_;rintro e w' ⟨rfl,rfl⟩) | (go_at_call 49;refine (BE.left HC.out).mono ?_;rintro e w' ⟨rfl,rfl⟩))
     have h1:Eg l=0:=by rw[Eg,HE.out,if_neg (by decide)]
     have h2:CK l=Rq.zero:=by rw[CK,HE.out,if_neg (by decide)]
     rw[h1,h2,HE.out]
     refine bodyPost_ret (v:=.tuple #[.int .u64 0,.agg #[.int .i64 0,.int .i64 0,.int .i64 0,.int .i64 0,.int .i64 0,.slice none 0 0,.int .i64 0,.int .i64 0],.int .i64 11]) (by simp[results,Tryz.results12,go_sem,r0,r1,r2,r3,r4,r5,r6,r7]) rfl ⟨none,0,rfl,RSl.nil,?_,World.ownsRow_nil _ _ _ _⟩
     exact ((((((((HB.out.setCell (Nat.le_refl _) _).setCell (Nat.le_refl _) _).setCell (Nat.le_refl _) _).setCell (Nat.le_refl _) _).setCell (Nat.le_refl _) _).setCell (Nat.le_refl _) _).setCell (Nat.le_refl _) _).setCell (Nat.le_refl _) _)
    ·by_cases h0:0<l'.length
     ·have HE:=Aa (show De l=12 by rw[hErr,if_pos rfl,if_neg (by omega),if_pos h0])
      clear hErr
      go_wp2_with (first | (go_at_call 48;refine (BE.err HC.out).mono ?_;rintro e w' ⟨rfl,rfl⟩) | (go_at_call 49;refine (BE.left HC.out).mono ?_;rintro e w' ⟨rfl,rfl⟩))
      have h1:Eg l=0:=by rw[Eg,HE.out,if_neg (by decide)]
      have h2:CK l=Rq.zero:=by rw[CK,HE.out,if_neg (by decide)]
      rw[h1,h2,HE.out]
      refine bodyPost_ret (v:=.tuple #[.int .u64 0,.agg #[.int .i64 0,.int .i64 0,.int .i64 0,.int .i64 0,.int .i64 0,.slice none 0 0,.int .i64 0,.int .i64 0],.int .i64 12]) (by simp[results,Tryz.results12,go_sem,r0,r1,r2,r3,r4,r5,r6,r7]) rfl ⟨none,0,rfl,RSl.nil,?_,World.ownsRow_nil _ _ _ _⟩
      exact ((((((((HB.out.setCell (Nat.le_refl _) _).setCell (Nat.le_refl _) _).setCell (Nat.le_refl _) _).setCell (Nat.le_refl _) _).setCell (Nat.le_refl _) _).setCell (Nat.le_refl _) _).setCell (Nat.le_refl _) _).setCell (Nat.le_refl _) _)
     ·have HE:=Aa (show De l=0 by rw[hErr,if_pos rfl,if_neg (by omega),if_neg h0])
      clear hErr
      have d1:=Ae HQ.out 1;have d2:=Ae HQ.out 2;have d3:=Ae HQ.out 3;have d4:=Ae HQ.out 4;have d5:=Ae HQ.out 5;have d6:=Ae HQ.out 6;have d7:=Ae HQ.out 7
      simp only[List.getElem?_toArray,List.getElem?_cons_zero,List.getElem?_cons_succ] at d1 d2 d3 d4 d5 d6 d7
      obtain⟨A5,cap5,rfl,_,_⟩:=BF HO.out
      go_wp2_with (first | (go_at_call 48;refine (BE.err HC.out).mono ?_;rintro e w' ⟨rfl,rfl⟩) | (go_at_call 49;refine (BE.left HC.out).mono ?_;rintro e w' ⟨rfl,rfl⟩) | fail)
      go_region
      go_wp2
      have h1:Eg l=nm (l,0) 8:=by rw[Eg,HE.out,if_pos rfl]
      have h2:CK l=⟨kd,nm (q2 l) 2,nm (q3 l) 1,nm (q4 l) 1,nm (q5 l) 2,nm (q6 l) 1,nm (q7 l) 1,ns l k⟩:=by rw[CK,HE.out,if_pos rfl];exact HRQ.out
      rw[h1,h2,HE.out]
      have hnb:=EO HO.out HRES.out (by decide)
      have hb8:=((((((((HB.out.setCell (p:=⟨w.heap.size,0,none⟩) (Nat.le_refl _) (.int .i64 kd)).setCell (p:=⟨w.heap.size,1,none⟩) (Nat.le_refl _) (.int .i64 (nm (q2 l) 2))).setCell (p:=⟨w.heap.size,2,none⟩) (Nat.le_refl _) (.int .i64 (nm (q3 l) 1))).setCell (p:=⟨w.heap.size,3,none⟩) (Nat.le_refl _) (.int .i64 (nm (q4 l) 1))).setCell (p:=⟨w.heap.size,4,none⟩) (Nat.le_refl _) (.int .i64 (nm (q5 l) 2))).setCell (p:=⟨w.heap.size,5,none⟩) (Nat.le_refl _) (.slice A5 k cap5)).setCell (p:=⟨w.heap.size,6,none⟩) (Nat.le_refl _) (.int .i64 (nm (q6 l) 1))).setCell (p:=⟨w.heap.size,7,none⟩) (Nat.le_refl _) (.int .i64 (nm (q7 l) 1)))
      have ho8:=(ownsRow_setCell_other (a:=⟨w.heap.size,7,none⟩) (ownsRow_setCell_other (a:=⟨w.heap.size,6,none⟩) (ownsRow_setCell_other (a:=⟨w.heap.size,5,none⟩) (ownsRow_setCell_other (a:=⟨w.heap.size,4,none⟩) (ownsRow_setCell_other (a:=⟨w.heap.size,3,none⟩) (ownsRow_setCell_other (a:=⟨w.heap.size,2,none⟩) (ownsRow_setCell_other (a:=⟨w.heap.size,1,none⟩) (ownsRow_setCell_other (a:=⟨w.heap.size,0,none⟩) HO.out hnb (.int .i64 kd)) hnb (.int .i64 (nm (q2 l) 2))) hnb (.int .i64 (nm (q3 l) 1))) hnb (.int .i64 (nm (q4 l) 1))) hnb (.int .i64 (nm (q5 l) 2))) hnb (.slice A5 k cap5)) hnb (.int .i64 (nm (q6 l) 1))) hnb (.int .i64 (nm (q7 l) 1)))
      have hr8:=rsl_u32 ho8 (ns_lt l k)
      have hh8:=HRES.out
      replace hh8:=AG (i:=0) (.int .i64 kd) hh8
      replace hh8:=AG (i:=1) (.int .i64 (nm (q2 l) 2)) hh8
      replace hh8:=AG (i:=2) (.int .i64 (nm (q3 l) 1)) hh8
      replace hh8:=AG (i:=3) (.int .i64 (nm (q4 l) 1)) hh8
      replace hh8:=AG (i:=4) (.int .i64 (nm (q5 l) 2)) hh8
      replace hh8:=AG (i:=5) (.slice A5 k cap5) hh8
      replace hh8:=AG (i:=6) (.int .i64 (nm (q6 l) 1)) hh8
      replace hh8:=AG (i:=7) (.int .i64 (nm (q7 l) 1)) hh8
      simp only[List.setIfInBounds_toArray,List.set_cons_zero,List.set_cons_succ] at hh8
      generalize ((((((((wr.setCell ⟨w.heap.size,0,none⟩ (.int .i64 kd)).setCell ⟨w.heap.size,1,none⟩ (.int .i64 (nm (q2 l) 2))).setCell ⟨w.heap.size,2,none⟩ (.int .i64 (nm (q3 l) 1))).setCell ⟨w.heap.size,3,none⟩ (.int .i64 (nm (q4 l) 1))).setCell ⟨w.heap.size,4,none⟩ (.int .i64 (nm (q5 l) 2))).setCell ⟨w.heap.size,5,none⟩ (.slice A5 k cap5)).setCell ⟨w.heap.size,6,none⟩ (.int .i64 (nm (q6 l) 1))).setCell ⟨w.heap.size,7,none⟩ (.int .i64 (nm (q7 l) 1)))=W8 at hb8 hr8 ho8 hh8 ⊢
      have e0:=Ae hh8 0;have e1:=Ae hh8 1;have e2:=Ae hh8 2;have e3:=Ae hh8 3;have e4:=Ae hh8 4;have e5:=Ae hh8 5;have e6:=Ae hh8 6;have e7:=Ae hh8 7
      simp only[List.getElem?_toArray,List.getElem?_cons_zero,List.getElem?_cons_succ] at e0 e1 e2 e3 e4 e5 e6 e7
      refine bodyPost_ret (v:=.tuple #[.int .u64 (nm (l,0) 8),.agg #[.int .i64 kd,.int .i64 (nm (q2 l) 2),.int .i64 (nm (q3 l) 1),.int .i64 (nm (q4 l) 1),.int .i64 (nm (q5 l) 2),.slice A5 k cap5,.int .i64 (nm (q6 l) 1),.int .i64 (nm (q7 l) 1)],.int .i64 0]) (by simp[results,Tryz.results12,go_sem,e0,e1,e2,e3,e4,e5,e6,e7]) rfl (parseO_mk (ns_length l k) hr8 ?_ ho8)
      exact hb8.drew
   ·have HE:=Aa (show De l=e' by rw[hErr,if_neg he])
    have hq1:(e'==0)=false:=by rw[beq_eq_false_iff_ne];omega
    have hq2:(e' !=0)=true:=by rw[bne_iff_ne];omega
    clear hErr
    go_wp2_with (first | (go_at_call 48;refine (BE.err HC.out).mono ?_;rintro e w' ⟨rfl,rfl⟩) | (go_at_call 49;refine (BE.left HC.out).mono ?_;rintro e w' ⟨rfl,rfl⟩))
    have h1:Eg l=0:=by rw[Eg,HE.out,if_neg he]
    have h2:CK l=Rq.zero:=by rw[CK,HE.out,if_neg he]
    rw[h1,h2,HE.out]
    refine bodyPost_ret (v:=.tuple #[.int .u64 0,.agg #[.int .i64 0,.int .i64 0,.int .i64 0,.int .i64 0,.int .i64 0,.slice none 0 0,.int .i64 0,.int .i64 0],.int .i64 e']) (by simp[results,Tryz.results12,go_sem,r0,r1,r2,r3,r4,r5,r6,r7]) rfl ⟨none,0,rfl,RSl.nil,?_,World.ownsRow_nil _ _ _ _⟩
    exact ((((((((HB.out.setCell (Nat.le_refl _) _).setCell (Nat.le_refl _) _).setCell (Nat.le_refl _) _).setCell (Nat.le_refl _) _).setCell (Nat.le_refl _) _).setCell (Nat.le_refl _) _).setCell (Nat.le_refl _) _).setCell (Nat.le_refl _) _)
end Go.Proofs.YtmcndlofaanjiaaGreat
