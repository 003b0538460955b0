/- Texts of one claim, laid together: Are Are2 -/
import Derived.Test.YtmcndlofaanjiaaGreatJo06
import Derived.Test.YtmcndlofaanjiaaGreatJo07
/- arena: slots in memory. -/
namespace Go.Proofs.YtmcndlofaanjiaaGreat
open Go.RowKit
set_option linter.unusedVariables false
set_option maxRecDepth 100000
set_option maxHeartbeats 8000000
def slC (s:ASl Nat):List Value:=[.pointer (s.x.map fun b=>⟨b,0,none⟩),.int .u32 s.turn,.bool s.x.isSome]
structure D0 (w:World) (a B:Nat) (sl:List (ASl Nat)):Prop where
 ha:w.heap[a]?=some (.cells #[.slice (some ⟨B,0,none⟩) sl.length sl.length,.int .i64 (Ba sl)] 190 (0,0))
 hB:∃ cur:List Value,w.heap[B]?=some (.cells cur.toArray 251 (0,0))∧cur.length=sl.length*3∧∀ (i:Nat) (s:ASl Nat),sl[i]?=some s→∀ j,j<3→cur[i*3+j]?=(slC s)[j]?
 n64:sl.length≤64
 ne:a≠B
section
variable {w w':World} {a B:Nat} {sl:List (ASl Nat)}
theorem D0.fp {S:Nat→Prop} (h:D0 w a B sl) (hf:Fp S w w') (h1:¬ S a) (h2:¬ S B):D0 w' a B sl:=by
 obtain⟨cur,hB,hl,hc⟩:=h.hB
 exact⟨hf.heap h.ha h1,⟨cur,hf.heap hB h2,hl,hc⟩,h.n64,h.ne⟩
theorem D0.le (h:D0 w a B sl) (hl:Le w w'):D0 w' a B sl:=h.fp (S:=fun _=>False) (Fp.of_le hl) (fun h=>h) (fun h=>h)
theorem D0.cell (h:D0 w a B sl) {i:Nat} {s:ASl Nat} (hi:sl[i]?=some s) (j:Nat) (hj:j<3):w.cell? ⟨B,i*3+j,none⟩=(slC s)[j]?:=by
 obtain⟨cur,hB,_,hc⟩:=h.hB
 rw[Ae hB,List.getElem?_toArray,hc i s hi j hj]
theorem D0.c0 (h:D0 w a B sl):w.cell? ⟨a,0,none⟩=some (.slice (some ⟨B,0,none⟩) sl.length sl.length):=Ae h.ha 0
theorem D0.c1 (h:D0 w a B sl):w.cell? ⟨a,1,none⟩=some (.int .i64 (Ba sl)):=Ae h.ha 1
theorem Hv (h:D0 w a B sl):Calls Tryz.prog 23 #[.pointer (some ⟨a,0,none⟩)] w (Ax w (.int .i64 (Ba sl))):=by
 have c1:=h.c1
 clear h
 go_enter Tryz.func23,Tryz.ntmps23
 go_wp2_with fail
 go_ret
 exact⟨rfl,(Le.refl w).out⟩
end
def arS (a B:Nat) (k:Nat):Prop:=k=a∨k=B
section
variable {w w':World} {a B:Nat} {sl:List (ASl Nat)}
def Fm (w:World) (a B:Nat) (sl:List (ASl Nat)) (d:Nat) (e:Ending) (w':World):Prop :=
 e=.returned (.tuple #[.agg #[.int .i64 (AO sl d).2.1.slot,.int .u32 (AO sl d).2.1.turn],.int .i64 (AO sl d).2.2])∧D0 w' a B (AO sl d).1∧Fp (arS a B) w w'
theorem Eb {β:Type}:∀ (l:List (ASl β)) (i:Nat) (s:ASl β),l[i]?=some s→i<AN l→s.x.isSome=true
 | [],i,s,h,_=>by simp at h
 | u::l,i,s,h,hi=>by
  rw[AN] at hi
  split at hi
  ·omega
  ·next hn =>
   cases i with
   | zero =>
    simp only[List.getElem?_cons_zero,Option.some.injEq] at h
    subst h
    cases hx:u.x<;>simp_all
   | succ i=>exact Eb l i s (by simpa using h) (by omega)
theorem CW {β:Type}:∀ (l:List (ASl β)) (s:ASl β),l[AN l]?=some s→s.x.isSome=false
 | [],s,h=>by simp at h
 | u::l,s,h=>by
  rw[AN] at h
  split at h
  ·next hn =>
   simp only[List.getElem?_cons_zero,Option.some.injEq] at h
   subst h
   cases hx:u.x<;>simp_all
  ·exact CW l s (by simpa using h)
theorem arFree_lt {β:Type} {l:List (ASl β)} {i:Nat} {s:ASl β} (hi:l[i]?=some s) (hle:i≤AN l) (hs:s.x.isSome=false):i=AN l:=by
 rcases Nat.lt_or_ge i (AN l) with h | h
 ·rw[Eb l i s hi h] at hs;cases hs
 ·omega
theorem CD {β:Type}:∀ (l:List (ASl β)) (i:Nat) (s u:ASl β),l[i]?=some s→s.x.isSome=false→u.x.isSome=true→Ba (l.set i u)=Ba l+1
 | [],i,s,u,h,_,_=>by simp at h
 | a::l,0,s,u,h,h1,h2=>by
  simp only[List.getElem?_cons_zero,Option.some.injEq] at h
  subst h
  simp[Ba,h1,h2]
 | a::l,i+1,s,u,h,h1,h2=>by
  have:=CD l i s u (by simpa using h) h1 h2
  simp only[Ba,List.set_cons_succ,List.filter_cons] at this ⊢
  split<;>simp[this]
theorem F7 {β:Type} (l:List (ASl β)):Ba l≤l.length:=List.length_filter_le _ _
theorem D0.cut (h:D0 w a B sl) {i:Nat} {s:ASl Nat} (hi:sl[i]?=some s):∃ pre post:List Value,pre.length=i*3∧w.heap[B]?=some (.cells (pre++(slC s++post)).toArray 251 (0,0)):=by
 obtain⟨cur,hB,hl,hc⟩:=h.hB
 have hlt:i<sl.length:=(List.getElem?_eq_some_iff.1 hi).1
 obtain⟨pre,old,post,e,h1,h2⟩:=Ec hl hlt
 refine⟨pre,post,h1,?_⟩
 have ho:old=slC s:=by
  refine List.ext_getElem? fun j=>?_
  rcases Nat.lt_or_ge j 3 with hj | hj
  ·have:=hc i s hi j hj
   rw[← this,e,List.append_assoc,List.getElem?_append_right (by omega),List.getElem?_append_left (by omega),h1]
   congr 1
   omega
  ·rw[List.getElem?_eq_none (by omega),List.getElem?_eq_none (by simpa[slC] using hj)]
 rw[← ho,← List.append_assoc,← e]
 exact hB
theorem D0.put (h:D0 w a B sl) {i:Nat} {s u:ASl Nat} {pre post:List Value} (hi:sl[i]?=some s) (hp:pre.length=i*3) (h0:w.heap[B]?=some (.cells (pre++(slC s++post)).toArray 251 (0,0)))
  (hB:w'.heap[B]?=some (.cells (pre++(slC u++post)).toArray 251 (0,0)))
  (ha:w'.heap[a]?=some (.cells #[.slice (some ⟨B,0,none⟩) sl.length sl.length,.int .i64 (Ba (sl.set i u))] 190 (0,0))):D0 w' a B (sl.set i u):=by
 obtain⟨cur,hB0,hl,hc⟩:=h.hB
 rw[hB0] at h0
 injection h0 with h0
 injection h0 with h0
 have hcur:cur=pre++slC s++post:=by simpa using congrArg Array.toList h0
 have hs3:(slC s).length=3:=rfl
 have hu3:(slC u).length=3:=rfl
 refine⟨by rw[List.length_set];exact ha,⟨pre++(slC u++post),hB,?_,fun k v hk j hj=>?_⟩,by rw[List.length_set];exact h.n64,h.ne⟩
 ·rw[List.length_set,← hl,hcur];simp[hs3,hu3]
 ·rw[List.getElem?_set] at hk
  rw[← List.append_assoc]
  split at hk
  ·next e =>
   subst e
   split at hk
   ·injection hk with hk
    subst hk
    rw[List.append_assoc,List.getElem?_append_right (by omega),List.getElem?_append_left (by omega),hp]
    congr 1
    omega
   ·cases hk
  ·next e =>
   rw[CQ (hu3.trans hs3.symm),← hcur,hc k v hk j hj]
   have:=Cl hj e
   rw[hp,hs3]
   exact this
theorem Hs (h:D0 w a B sl) (d:Nat):Calls Tryz.prog 119 #[.pointer (some ⟨a,0,none⟩),.pointer (some ⟨d,0,none⟩)] w (Fm w a B sl d):=by
 have hn:=h.n64
 have HL:=Aa ((Le.refl w).alloc (.cells #[.int .i64 0,.int .u32 0] 135))
 have HX:=Aa (heap_alloc_new w (.cells #[.int .i64 0,.int .u32 0] 135))
 have HA:=Aa (h.le HL.out)
 have hfl:=arFree_le sl
 obtain⟨R,hR⟩:∃ R,R=Fm w a B sl d:=⟨_,rfl⟩
 rw[← hR]
 have HR:=Aa hR
 clear hR h
 have c0:=HA.out.c0
 go_enter Tryz.func119,Tryz.ntmps119
 go_wp2_with fail
 generalize w.alloc (.cells #[.int .i64 0,.int .u32 0] 135)=w1 at *
 generalize hgx:w.heap.size=gx at *
 have HGX:=Aa (Nat.le_of_eq hgx)
 clear hgx
 have HC:=Aa (show (a≠gx∧B≠gx) from ⟨by rintro rfl;exact absurd HX.out (by rw[HA.out.ha];simp),by rintro rfl;obtain⟨cur,hB,_⟩:=HA.out.hB;exact absurd HX.out (by rw[hB];simp)⟩)
 go_loopw [6,7,16] (fun _ _ j wr=>∃ k:Nat,k≤AN sl∧j=.int .i64 k∧wr=w1) (fun _ _ j _=>sl.length - (intOf j).toNat)
 case atStart=>exact⟨0,Nat.zero_le _,rfl,rfl⟩
 case round =>
  obtain⟨k,hk,rfl,rfl⟩:=hrel
  rcases Nat.lt_or_ge k sl.length with hlt | hge
  ·have hltI:(k:Int)<(sl.length:Int):=by omega
   have e:=List.getElem?_eq_getElem hlt
   have u2:=HA.out.cell e 2 (by omega)
   simp only[slC] at u2
   cases hu:sl[k].x.isSome
   ·rw[hu] at u2
    have hk2:=arFree_lt e hk hu
    obtain⟨pre,post,hpre,hB⟩:=HA.out.cut e
    have hx:sl[k].x=none:=by cases hq:sl[k].x<;>simp_all
    have hl2:Ba sl<64:=by have:=CD sl k sl[k] ⟨some d,0⟩ e hu rfl;have:=F7 (sl.set k ⟨some d,0⟩);rw[List.length_set] at this;omega
    have q1:IntKind.u32.wrap ((sl[k].turn:Int)+1)=(((sl[k].turn+1)%4294967296:Nat):Int):=by simp[IntKind.wrap,IntKind.signed,IntKind.bits]
    have q2:IntKind.i64.wrap ((Ba sl:Int)+1)=(Ba sl:Int)+1:=IntWalk.i64_in _ (by omega)
    have HK:=Aa (show AO sl d=(sl.set k ⟨some d,(sl[k].turn+1)%4294967296⟩,⟨(k:Int),(sl[k].turn+1)%4294967296⟩,0) by
     rw[AO,if_pos (by omega),← hk2]
     have:Ed sl k=sl[k]:=by rw[Ed,List.getD,e,Option.getD_some]
     rw[this])
    have HLV:=Aa (CD sl k sl[k] ⟨some d,(sl[k].turn+1)%4294967296⟩ e hu rfl)
    have HB:=Aa hB
    have HPRE:=Aa hpre
    have u1:=HA.out.cell e 1 (by omega)
    simp only[slC] at u1
    have HS:=Aa (show slC sl[k]=[.pointer none,.int .u32 sl[k].turn,.bool false] by rw[slC,hx];rfl)
    have HE:=Aa e
    clear hB hpre e hk2 hl2 hx hu
    generalize hT:(sl[k].turn+1)%4294967296=T at *
    go_upto_region 9 with (refine Ao rfl 110 (.tmp 36) (.tmp 34) rfl (pre++[.pointer none]) (v:=.int .u32 T) (old:=.int .u32 sl[k].turn) (post:=.bool false::post) (by rw[List.length_append,HPRE.out];rfl) rfl (by kernel_rfl) rfl (by have:=HB.out;rw[HS.out] at this;simpa using this) ?_;intro w2 h2 hg2;have H2:=Aa h2;have HG2:=Aa hg2;clear h2 hg2)
    go_upto_region 10 with (refine Ao rfl 68 (.tmp 40) (.tmp 38) rfl pre (v:=.pointer (some ⟨d,0,none⟩)) (old:=.pointer none) (post:=.int .u32 T::.bool false::post) (by rw[HPRE.out];rfl) rfl (by kernel_rfl) rfl (by have:=H2.out;simpa using this) ?_;intro w3 h3 hg3;have H3:=Aa h3;have HG3:=Aa hg3;clear h3 hg3)
    go_upto_region 11 with (refine Ao rfl 4 (.tmp 43) (.const (.bool true)) rfl (pre++[.pointer (some ⟨d,0,none⟩),.int .u32 T]) (v:=.bool true) (old:=.bool false) (post:=post) (by rw[List.length_append,HPRE.out];rfl) rfl (by kernel_rfl) rfl (by have:=H3.out;simpa using this) ?_;intro w4 h4 hg4;have H4:=Aa h4;have HG4:=Aa hg4;clear h4 hg4)
    have HFP:=Aa (((Fp.of_le HL.out).trans (Fp.of_grown (S:=arS a B) HG2.out (.inr rfl))).trans ((Fp.of_grown HG3.out (.inr rfl)).trans (Fp.of_grown HG4.out (.inr rfl))))
    have hn4:B≠a:=fun h=>HA.out.ne h.symm
    have HA4:=Aa (Ai HG4.out (Ai HG3.out (Ai HG2.out HA.out.ha (by intro h;injection h with h;exact hn4 h)) (by intro h;injection h with h;exact hn4 h)) (by intro h;injection h with h;exact hn4 h))
    have HX4:=Aa (Ai HG4.out (Ai HG3.out (Ai HG2.out HX.out (by intro h;injection h with h;exact HC.out.2 h)) (by intro h;injection h with h;exact HC.out.2 h)) (by intro h;injection h with h;exact HC.out.2 h))
    have z1:=Ae HA4.out 1
    clear u1 u2 c0
    go_upto_region 12 with (refine Ao rfl 3 (.tmp 50) (.tmp 48) rfl [.slice (some ⟨B,0,none⟩) sl.length sl.length] (v:=.int .i64 ((Ba sl:Int)+1)) (old:=.int .i64 (Ba sl)) (post:=[]) rfl rfl (by kernel_rfl) rfl HA4.out ?_;intro w5 h5 hg5;have H5:=Aa h5;have HG5:=Aa hg5;clear h5 hg5)
    have HB5:=Aa (Ai HG5.out H4.out (by intro h;injection h with h;exact HA.out.ne h))
    have HX5:=Aa (Ai HG5.out HX4.out (by intro h;injection h with h;exact HC.out.1 h))
    have y1:w5.cell? ⟨B,k*3+1,none⟩=some (.int .u32 T):=by rw[Ae HB5.out,List.getElem?_toArray,← HPRE.out,List.append_assoc,List.getElem?_append_right (by omega)];simp
    clear z1
    go_wp2_with (refine Ak rfl 135 (.tmp 4) (.tmp 56) rfl (cs:=[.int .i64 k,.int .u32 T]) (old:=[.int .i64 0,.int .u32 0]) rfl rfl (by kernel_rfl) (by simp[Value.oneCell']) HX5.out rfl ?_;intro w6 h6 hg6;have H6:=Aa h6;have HG6:=Aa hg6;clear h6 hg6)
    refine BN Tryz.results119 (Bb.mk' rfl H6.out Tryz.underlying135 rfl (by kernel_rfl)) rfl ?_
    rw[HR.out,Fm,HK.out]
    refine⟨rfl,HA.out.put HE.out HPRE.out HB.out ?_ ?_,((HFP.out.trans (Fp.of_grown HG5.out (.inl rfl))).fresh HG6.out HGX.out)⟩
    ·have:=Ai HG6.out HB5.out (by intro h;injection h with h;exact HC.out.2 h.symm)
     simpa[slC] using this
    ·have:=Ai HG6.out H5.out (by intro h;injection h with h;exact HC.out.1 h.symm)
     rw[HLV.out]
     exact this
   ·rw[hu] at u2
    have hk2:k<AN sl:=by
     rcases Nat.lt_or_ge k (AN sl) with h | h
     ·exact h
     ·have:k=AN sl:=by omega
      subst this
      rw[CW sl _ e] at hu;cases hu
    have q1:IntKind.i64.wrap ((k:Int)+1)=((k+1:Nat):Int):=by rw[IntWalk.i64_in _ (by omega)];simp
    clear e hu
    go_wp2_with fail
    exact⟨⟨k+1,hk2,rfl,trivial⟩,by simp only[intOf];omega⟩
  ·have hgeI:¬ (k:Int)<(sl.length:Int):=by omega
   have HK:=Aa (show AO sl d=(sl,⟨0,0⟩,20) by rw[AO,if_neg (by omega)])
   go_wp2_with (refine Ak rfl 135 (.tmp 4) (.tmp 58) rfl (cs:=[.int .i64 0,.int .u32 0]) (old:=[.int .i64 0,.int .u32 0]) rfl rfl (by kernel_rfl) (by simp[Value.oneCell']) HX.out rfl ?_;intro w6 h6 hg6;have H6:=Aa h6;have HG6:=Aa hg6;clear h6 hg6)
   refine BN Tryz.results119 (Bb.mk' rfl H6.out Tryz.underlying135 rfl (by kernel_rfl)) rfl ?_
   rw[HR.out,Fm,HK.out]
   exact⟨rfl,HA.out.fp (Fp.of_grown (S:=fun k=>k=gx) HG6.out rfl) HC.out.1 HC.out.2,(Fp.of_le HL.out).fresh HG6.out HGX.out⟩
theorem slArn:SlT Tryz.prog 188 251 (.agg #[.pointer none,.int .u32 0,.bool false]) 3 16:=⟨Tryz.underlying188,by kernel_rfl,rfl,by omega⟩
def ArNewP (w:World) (n:Nat) (e:Ending) (w':World):Prop :=
 ∃ a B:Nat,e=.returned (.pointer (some ⟨a,0,none⟩))∧D0 w' a B (List.replicate n ASl.zero)∧Le w w'∧w.heap.size≤a∧w.heap.size≤B∧a<w'.heap.size∧B<w'.heap.size
theorem Hk {z:Value} {zs:List Value} (hz:z.cells=zs.toArray) (n:Nat) (hp:0<zs.length):Cz (madeCells z.cells (n*zs.length)).toList zs.length (List.replicate n zs):=fun i v hi j hj=>by
 have hin:i<n:=by simpa using (List.getElem?_eq_some_iff.1 hi).1
 have hv:v=zs:=by rw[List.getElem?_replicate,if_pos hin] at hi;injection hi with hi;exact hi.symm
 subst hv
 have hle:=CF (s:=v.length) hin
 rw[hz]
 have e1:(i*v.length+j)%v.length=j:=by rw[Nat.mul_comm,Nat.mul_add_mod];exact Nat.mod_eq_of_lt hj
 have e2:(madeCells v.toArray (n*v.length))[i*v.length+j]?=some (v.toArray[(i*v.length+j)%v.toArray.size]!):=by
  rw[madeCells,Array.getElem?_map,Array.getElem?_range,if_pos (by omega)]
  rfl
 rw[Array.getElem?_toList,e2,List.size_toArray,e1,List.getElem?_eq_getElem hj,getElem!_pos v.toArray j (by simpa using hj)]
 simp
theorem arNew_any (w:World) (n:Nat) (h1:1≤n) (h2:n≤64):Calls Tryz.prog 50 #[.int .i64 n] w (ArNewP w n):=by
 have i1:¬ (n:Int)<1:=by omega
 have i2:¬ 64<(n:Int):=by omega
 obtain⟨R,hR⟩:∃ R,R=ArNewP w n:=⟨_,rfl⟩
 rw[← hR]
 have HR:=Aa hR
 clear hR
 go_enter Tryz.func50,Tryz.ntmps50
 go_wp2_with (refine CC rfl slArn _ _ rfl (kl:=.i64) (kc:=.i64) (n:=n) rfl rfl (by omega) (by omega) ?_;intro w2 ho2 hle2;have HL2:=Aa hle2;have HO2:=Aa ho2;clear ho2 hle2)
 rw[HR.out]
 obtain⟨hl,⟨hv,_⟩ | ⟨g,cap,cur,hv,hg0,hg,hnc,hcm,hcs,htk⟩⟩:=HO2.out
 ·cases hv
 ·injection hv with hv1 hv2 hv3
  injection hv1 with hv1
  injection hv1 with hv1
  subst hv1 hv3
  have h3:(slC (ASl.zero (β:=Nat)))=[.pointer none,.int .u32 0,.bool false]:=rfl
  have hrow:=Hk (z:=.agg #[.pointer none,.int .u32 0,.bool false]) (zs:=slC (ASl.zero (β:=Nat))) rfl n (by decide)
  have hcur:cur.toList=(madeCells (Value.agg #[Value.pointer none,Value.int IntKind.u32 0,Value.bool false]).cells (n*3)).toList:=by
   rw[← htk,List.take_of_length_le (by simp[hcs])]
  have hbl:=Nat.lt_of_lt_of_le (Nat.lt_succ_self w2.heap.size) (Nat.le_refl _)
  have hsz:=Ah hg
  have hlive:∀ m,Ba (List.replicate m (ASl.zero (β:=Nat)))=0:=fun m=>by
   rw[Ba,List.filter_eq_nil_iff.2]
   ·rfl
   ·intro s hs;rw[List.eq_of_mem_replicate hs];simp[ASl.zero]
  refine⟨w2.heap.size,w.heap.size,rfl,⟨?_,⟨cur.toList,?_,?_,fun i s hi j hj=>?_⟩,by rw[List.length_replicate];exact h2,by omega⟩,HL2.out.alloc _,HL2.out.size,Nat.le_refl _,by show _<(w2.heap.push _).size;rw[Array.size_push];omega,by show _<(w2.heap.push _).size;rw[Array.size_push];omega⟩
  ·rw[List.length_replicate,hlive]
   exact heap_alloc_new w2 _
  ·rw[Array.toArray_toList]
   exact heap_alloc hg
  ·rw[List.length_replicate];simpa using hcs
  ·have hin:i<n:=by simpa using (List.getElem?_eq_some_iff.1 hi).1
   have hs:s=ASl.zero:=by rw[List.getElem?_replicate,if_pos hin] at hi;injection hi with hi;exact hi.symm
   subst hs
   rw[hcur]
   exact hrow i _ (by rw[List.getElem?_replicate,if_pos hin]) j hj
end
end Go.Proofs.YtmcndlofaanjiaaGreat
