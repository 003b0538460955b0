/- Texts of one claim, laid together: Oct Held -/
import Derived.Deep.RegionHeld3
import Derived.Deep.DeepCutAuto
import Derived.Deep.QuietTactic
import Derived.BigQuiet
import Derived.Test.YtmcndlofaanjiaaGreatJo01
/- The octet package,function by function: what each call does. -/
namespace Go.Proofs.YtmcndlofaanjiaaGreat
open Go.RowKit
set_option linter.unusedVariables false
set_option maxRecDepth 100000
set_option maxHeartbeats 8000000
theorem sl8:SlT Tryz.prog 25 5 (.int .u8 0) 1 1:=⟨Tryz.underlying25,by kernel_rfl,rfl,by omega⟩
theorem Gz (n:Int) (w:World):Calls Tryz.prog 106 #[.int .i64 n] w fun e w'=>e=.returned (.bool (Ey n))∧w=w':=by
 by_cases h1:1≤n
 ·have e:Ey n=decide (n≤8):=by simp[Ey,h1]
  rw[e];clear e
  go_enter Tryz.func106,Tryz.ntmps106
  go_wp2
  go_ret
  exact⟨rfl,rfl⟩
 ·have e:Ey n=false:=by simp[Ey,h1]
  rw[e];clear e
  go_enter Tryz.func106,Tryz.ntmps106
  go_wp2
  go_ret
  exact⟨rfl,rfl⟩
def RPart:Rd (Nat×Int):=fun _ p cs=>cs=[.int .u64 p.1,.int .i64 p.2]∧(p.1:Int)<18446744073709551616
def Owns8 (w:World) (l:List UInt8) (e:Ending) (w':World):Prop :=
 ∃ v,e=.returned v∧w'.ownsRow w.heap.size 5 1 v l.length (u8s l)∧Below w.heap.size w w'
theorem put_any (A:Option Addr) (n cap:Nat) (ps:List (Nat×Int)) (w:World) (hr:RSl 2 RPart w ps (.slice A n cap)) (hn:n≤65536) :
  Calls Tryz.prog 74 #[.slice A n cap] w (Owns8 w (Ez ps)):=by
 obtain⟨A',cap',hv,hcap,hr⟩:=hr
 injection hv with e1 e2 e3
 subst e1 e2 e3
 have HR:=Aa hr;clear hr
 go_enter Tryz.func74,Tryz.ntmps74
 go_wp2_with fail
 go_loopw [3,9] (fun v i wr=>∃ k:Nat,k≤ps.length∧i=.int .i64 k∧wr.ownsRow w.heap.size 5 1 v (Ez (ps.take k)).length (u8s (Ez (ps.take k)))∧Below w.heap.size w wr)
  (fun _ i _=>ps.length - (intOf i).toNat)
 case atStart=>exact⟨0,Nat.zero_le _,rfl,by simpa[Ez,u8s] using World.ownsRow_nil w w.heap.size _ 1,Below.refl _ _⟩
 case round =>
  obtain⟨k,hk,rfl,hown,hb⟩:=hrel
  by_cases hlt:k<ps.length
  ·obtain⟨b,off,rfl,hi⟩:=HR.out (by intro e;rw[e] at hlt;simp at hlt)
   obtain⟨cs,_,hc,hR,hx⟩:=hi k hlt
   subst hR
   have c0:=cell_later hb (show w.cell? ⟨b,off+k*2,none⟩=some (.int .u64 ps[k].1) from hc 0 (by omega))
   have c1:=cell_later hb (show w.cell? ⟨b,off+k*2+1,none⟩=some (.int .i64 ps[k].2) from hc 1 (by omega))
   clear hc hi
   have HX:=Aa hx;clear hx
   have HT:=Aa (puts_take ps k hlt)
   have hll:=BJ (ps.take k)
   have htk:(ps.take k).length≤k:=List.length_take_le _ _
   generalize Ez (ps.take k)=l at *
   generalize hx:ps[k]=p at *
   obtain⟨x,s⟩:=p
   simp only at c0 c1 HX
   clear hx
   by_cases hm:Ey s=true
   ·obtain⟨h1,h8⟩:1≤s∧s≤8:=by simpa[Ey] using hm
    go_wp2_with fail
    refine (Gz _ _).mono ?_
    rintro e w' ⟨rfl,rfl⟩
    have hP:=heap_alloc_new wr (.cells #[Value.int IntKind.u64 ↑x,Value.int IntKind.i64 s] 193)
    have hown1:=hown.alloc (.cells #[Value.int IntKind.u64 ↑x,Value.int IntKind.i64 s] 193)
    have hb1:=hb.alloc hb.size (.cells #[Value.int IntKind.u64 ↑x,Value.int IntKind.i64 s] 193)
    go_wp2_with fail
    generalize wr.alloc (.cells #[Value.int IntKind.u64 ↑x,Value.int IntKind.i64 s] 193)=w1 at *
    generalize wr.heap.size=P at *
    obtain⟨n,rfl⟩:=Int.eq_ofNat_of_zero_le (show 0≤s by omega)
    go_loopw [3,19] (fun v j w2=>∃ i:Nat,i≤n∧j=.int .i64 i∧w2.ownsRow w.heap.size 5 1 v (l.length+i) (u8s (l++beTo x n i))∧Below w.heap.size w w2 ∧
      w2.heap[P]?=some (.cells #[Value.int IntKind.u64 ↑x,Value.int IntKind.i64 n] 193 (0,0)))
     (fun _ j _=>n - (intOf j).toNat)
    case atStart=>exact⟨0,Nat.zero_le _,rfl,by simpa[beTo] using hown1,hb1,hP⟩
    case round =>
     clear hown1 hb1 hP
     obtain⟨i,hi,rfl,hown1,hb1,hP⟩:=hrel
     have d0:wr.cell? ⟨P,0,none⟩=some (.int .u64 x):=by rw[Ae hP];rfl
     have d1:wr.cell? ⟨P,1,none⟩=some (.int .i64 n):=by rw[Ae hP];rfl
     by_cases hin:i<n
     ·go_wp2_with (first | (at_builtin;go_must (refine Ci rfl sl8 (.tmp 22) (.tmp 33) rfl (hown1.alloc _) rfl rfl (Dq _ [_] _) rfl (by simp[Value.oneCell']) (by omega) (by omega) (AQ hb1.size) ?_);intro v' w' hown2 hg2 hat2))
      go_roundw
      case rel =>
       refine⟨i+1,by omega,by go_num,?_,GA (hb1.alloc hb1.size _) (hown1.alloc _) hg2 (Nat.le_refl _) (AQ hb1.size),Ai hg2 (heap_alloc hP) (EO hown1 hP (by decide))⟩
       rw[beTo_succ,← List.append_assoc,Ib,← Nat.add_assoc]
       rw[bAt_cell] at hown2
       exact hown2
      case measure=>simp[intOf];omega
     ·have hie:i=n:=by omega
      subst hie
      go_wp2
      go_roundw
      case rel =>
       refine⟨k+1,by omega,by go_num,?_,hb1⟩
       have e:Ez (ps.take (k+1))=l++beTo x i i:=by rw[HT.out];simp[D3,hm,be,beTo]
       rw[e]
       simpa[Gc] using hown1
      case measure=>simp[intOf];omega
   ·have hm0:Ey s=false:=by simpa using hm
    clear hm
    go_wp2_with (go_at_call 106;refine (Gz _ _).mono ?_;rintro e w' ⟨rfl,rfl⟩)
    go_roundw
    case rel =>
     refine⟨k+1,by omega,by go_num,?_,hb.alloc hb.size _⟩
     have e:Ez (ps.take (k+1))=l:=by rw[HT.out];simp[D3,hm0]
     rw[e]
     exact hown.alloc _
    case measure=>simp[intOf];omega
  ·have hke:k=ps.length:=by omega
   have HK:=Aa hke;clear hke
   go_wp2
   go_ret
   refine⟨_,rfl,?_,hb⟩
   have e:ps.take k=ps:=by rw[HK.out];exact List.take_length
   rw[e] at hown
   exact hown
def BE (w:World) (base p:Nat) (l:List UInt8) (e:Int):Prop :=
 base≤p∧∃ A cap,w.heap[p]?=some (.cells #[.slice A l.length cap,.int .i64 e] 265 (0,0))∧l.length≤cap ∧
  (l≠[]→∃ g off cur,A=some ⟨g,off,none⟩∧base≤g∧w.heap[g]?=some (.cells cur 5 (0,0))∧∀ j (h:j<l.length),cur[off+j]?=some (.int .u8 l[j].toNat))
theorem BE.keep {w w':World} {base p:Nat} {l:List UInt8} {e:Int} (h:BE w base p l e) {B:Nat} (hb:Below B w w') (hB:w.heap.size≤B):BE w' base p l e:=by
 obtain⟨h1,A,cap,hp,hc,hd⟩:=h
 have hlt:∀ {k:Nat} {o:Obj},w.heap[k]?=some o→k<B:=fun h=>Nat.lt_of_lt_of_le (Array.getElem?_eq_some_iff.1 h).1 hB
 refine⟨h1,A,cap,CJ hb hp (hlt hp),hc,fun hne=>?_⟩
 obtain⟨g,off,cur,h2,h3,h4,h5⟩:=hd hne
 exact⟨g,off,cur,h2,h3,CJ hb h4 (hlt h4),h5⟩
theorem EN (p:Nat) (e:Int) (w:World) (h:w.cell? ⟨p,1,none⟩=some (.int .i64 e)):Calls Tryz.prog 48 #[.pointer (some ⟨p,0,none⟩)] w fun r w'=>r=.returned (.int .i64 e)∧w=w':=by
 go_enter Tryz.func48,Tryz.ntmps48
 go_wp2
 go_ret
 exact⟨rfl,rfl⟩
theorem left_at (p:Nat) (a:Option Addr) (n cap:Nat) (w:World) (h:w.cell? ⟨p,0,none⟩=some (.slice a n cap)):Calls Tryz.prog 49 #[.pointer (some ⟨p,0,none⟩)] w fun r w'=>r=.returned (.int .i64 n)∧w=w':=by
 go_enter Tryz.func49,Tryz.ntmps49
 go_wp2
 go_ret
 exact⟨rfl,rfl⟩
theorem BE.err {w:World} {base p:Nat} {l:List UInt8} {e:Int} (h:BE w base p l e):Calls Tryz.prog 48 #[.pointer (some ⟨p,0,none⟩)] w fun r w'=>r=.returned (.int .i64 e)∧w=w':=by
 obtain⟨_,A,cap,hp,_⟩:=h
 exact EN p e w (by rw[Ae hp];rfl)
theorem BE.left {w:World} {base p:Nat} {l:List UInt8} {e:Int} (h:BE w base p l e):Calls Tryz.prog 49 #[.pointer (some ⟨p,0,none⟩)] w fun r w'=>r=.returned (.int .i64 l.length)∧w=w':=by
 obtain⟨_,A,cap,hp,_⟩:=h
 exact left_at p A l.length cap w (by rw[Ae hp];rfl)
def D8 (w:World) (l:List UInt8) (v:Value):Prop :=
 ∃ A cap,v=.slice A l.length cap∧l.length≤cap∧(l≠[]→∃ g off cur fr,A=some ⟨g,off,none⟩∧w.heap[g]?=some (.cells cur 5 fr)∧∀ j (h:j<l.length),cur[off+j]?=some (.int .u8 l[j].toNat))
theorem D8.nil {w:World}:D8 w [] (.slice none 0 0):=⟨none,0,rfl,by simp,fun h=>absurd rfl h⟩
theorem D8.rsl {w:World} {l:List UInt8} {v:Value} (h:D8 w l v):RSl 1 RU8 w l v:=by
 obtain⟨A,cap,rfl,hc,hd⟩:=h
 refine⟨A,cap,rfl,hc,fun hne=>?_⟩
 obtain⟨g,off,cur,fr,rfl,hg,hj⟩:=hd hne
 refine⟨g,off,rfl,fun i hi=>⟨[.int .u8 l[i].toNat],rfl,fun j hj'=>?_,rfl⟩⟩
 obtain rfl:j=0:=by omega
 rw[Ae hg]
 simpa using hj i hi
def TakeP (w:World) (base p:Nat) (x:List UInt8×Int×List UInt8) (r:Ending) (w':World):Prop :=
 ∃ v,r=.returned v∧BE w' base p x.1 x.2.1∧D8 w' x.2.2 v∧w.grownBy w' (some p)
theorem C4 {w:World} {p i:Nat} (u:Value):w.grownBy (w.setCell ⟨p,i,none⟩ u) (some p) :=
 ⟨rfl,rfl,rfl,by simp[World.setCell],fun k _ hne=>Below.heap_setCell w ⟨p,i,none⟩ u k (fun e=>hne (by rw[e]))⟩
theorem AG {w:World} {p i:Nat} {cs:Array Value} {t:TypeId} {fr:Nat×Nat} (u:Value) (h:w.heap[p]?=some (.cells cs t fr)):(w.setCell ⟨p,i,none⟩ u).heap[p]?=some (.cells (cs.setIfInBounds i u) t fr):=by
 simp[World.setCell,Array.getElem?_modify,h]
theorem AL {w:World} {g p i:Nat} {o:Obj} (u:Value) (h:w.heap[g]?=some o) (hne:g≠p):(w.setCell ⟨p,i,none⟩ u).heap[g]?=some o:=(Below.heap_setCell w ⟨p,i,none⟩ u g hne).trans h
theorem FS {w:World} {base p:Nat} {l:List UInt8} {A A':Option Addr} {cap k:Nat} (hbp:base≤p) (hp:w.heap[p]?=some (.cells #[.slice A l.length cap,.int .i64 0] 265 (0,0))) (hcap:l.length≤cap)
  (hdata:l≠[]→∃ g off cur,A=some ⟨g,off,none⟩∧base≤g∧w.heap[g]?=some (.cells cur 5 (0,0))∧∀ j (h:j<l.length),cur[off+j]?=some (.int .u8 l[j].toNat))
  (hk:k≤l.length) (hA:(cap=k∧A'=A)∨A'=A.map (·.add k)) :
  TakeP w base p (cut l 0 k true) (.returned (.slice A k k)) (w.setCell ⟨p,0,none⟩ (.slice A' (l.length - k) (cap - k))):=by
 have e:cut l 0 k true=(l.drop k,0,l.take k):=by simp[cut];omega
 rw[e]
 have hset:=AG (i:=0) (.slice A' (l.length - k) (cap - k)) hp
 have hpg:∀ {g:Nat} {cur:Array Value},w.heap[g]?=some (.cells cur 5 (0,0))→g≠p:=by
  intro g cur h3 e
  rw[e,hp] at h3
  injection h3 with h3
  injection h3 with _ h3 _
  exact absurd h3 (by decide)
 refine⟨_,rfl,⟨hbp,A',cap - k,by simpa using hset,by simp;omega,fun hne=>?_⟩,⟨A,k,by simp;omega,by simp;omega,fun hne=>?_⟩,C4 _⟩
 ·have hlt:k<l.length:=by
   rcases Nat.lt_or_ge k l.length with h | h
   ·exact h
   ·exact absurd (List.drop_eq_nil_of_le h) hne
  obtain⟨g,off,cur,h1,h2,h3,h4⟩:=hdata (by intro e;rw[e] at hlt;simp at hlt)
  refine⟨g,off+k,cur,?_,h2,AL _ h3 (hpg h3),fun j hj=>?_⟩
  ·rcases hA with ⟨hc,_⟩ | hA
   ·omega
   ·rw[hA,h1];simp[BG]
  ·simp at hj
   have:=h4 (k+j) (by omega)
   rw[Nat.add_assoc,this]
   simp
 ·have hne':l≠[]:=by rintro rfl;simp at hne
  obtain⟨g,off,cur,h1,h2,h3,h4⟩:=hdata hne'
  refine⟨g,off,cur,_,h1,AL _ h3 (hpg h3),fun j hj=>?_⟩
  have:=h4 j (by simp at hj;omega)
  simpa using this
theorem take_any (w:World) (base p:Nat) (l:List UInt8) (e n:Int) (is:Bool) (h:BE w base p l e) (hl:l.length≤2147483648) (hn:is=true→0≤n) :
  Calls Tryz.prog 105 #[.pointer (some ⟨p,0,none⟩),.int .i64 n,.bool is] w (TakeP w base p (cut l e n is)):=by
 obtain⟨hbp,A,cap,hp,hcap,hdata⟩:=h
 have HD:=Aa hdata;clear hdata
 have HP:=Aa hp
 have c0:w.cell? ⟨p,0,none⟩=some (.slice A l.length cap):=by rw[Ae hp];rfl
 have c1:w.cell? ⟨p,1,none⟩=some (.int .i64 e):=by rw[Ae hp];rfl
 have f0:w.frozen? ⟨p,0,none⟩=false:=Ay hp 0
 have f1:w.frozen? ⟨p,1,none⟩=false:=Ay hp 1
 clear hp
 have HL:=fun (e':Int) (he:cut l e n is=(l,e',[])) (W':World) (hW:W'.heap[p]?=some (.cells #[.slice A l.length cap,.int .i64 e'] 265 (0,0))) (hg:w.grownBy W' (some p)) =>
  (show TakeP w base p (cut l e n is) (.returned (.slice none 0 0)) W' from by
   rw[he]
   refine⟨_,rfl,⟨hbp,A,cap,hW,hcap,fun hne=>?_⟩,D8.nil,hg⟩
   obtain⟨g,off,cur,h1,h2,h3,h4⟩:=HD.out hne
   refine⟨g,off,cur,h1,h2,Ai hg h3 (fun e=>?_),h4⟩
   simp only[Option.some.injEq] at e
   rw[← e,HP.out] at h3
   injection h3 with h3
   injection h3 with _ h3 _
   exact absurd h3 (by decide))
 by_cases he:e=0
 ·subst he
  cases is with
  | false =>
   have HL1:=Aa (HL 1 (by simp[cut]));clear HL
   go_enter Tryz.func105,Tryz.ntmps105
   go_wp2_with (go_at_call 48;refine (EN _ _ _ c1).mono ?_;rintro e w' ⟨rfl,rfl⟩)
   go_ret
   exact HL1.out _ (AG (i:=1) (.int .i64 1) HP.out) (C4 _)
  | true =>
   have hn0:=hn rfl
   clear hn
   obtain⟨k,rfl⟩:=Int.eq_ofNat_of_zero_le hn0
   by_cases hk:l.length<k
   ·have HL1:=Aa (HL 10 (by simp[cut];omega));clear HL
    go_enter Tryz.func105,Tryz.ntmps105
    go_wp2_with (go_at_call 48;refine (EN _ _ _ c1).mono ?_;rintro e w' ⟨rfl,rfl⟩)
    go_ret
    exact HL1.out _ (AG (i:=1) (.int .i64 10) HP.out) (C4 _)
   ·clear HL
    by_cases hck:cap=k
    ·subst hck
     have HF:=Aa (FS (A':=A) hbp HP.out hcap HD.out (k:=cap) (by omega) (.inl ⟨rfl,rfl⟩))
     go_enter Tryz.func105,Tryz.ntmps105
     go_wp2_with (go_at_call 48;refine (EN _ _ _ c1).mono ?_;rintro e w' ⟨rfl,rfl⟩)
     go_ret
     have e0:l.length - cap=0:=by omega
     simpa[e0] using HF.out
    ·have HF:=Aa (FS (k:=k) hbp HP.out hcap HD.out (by omega) (.inr rfl))
     go_enter Tryz.func105,Tryz.ntmps105
     go_wp2_with (go_at_call 48;refine (EN _ _ _ c1).mono ?_;rintro e w' ⟨rfl,rfl⟩)
     go_ret
     exact HF.out
 ·have hne:(e !=0)=true:=by simpa using he
  have HL1:=Aa (HL e (by simp[cut,he]));clear HL
  have Hhe:=Aa he;clear he
  go_enter Tryz.func105,Tryz.ntmps105
  go_wp2_with (go_at_call 48;refine (EN _ _ _ c1).mono ?_;rintro e w' ⟨rfl,rfl⟩)
  go_ret
  exact HL1.out _ HP.out (World.grownBy.refl _ _)
def NumP (w:World) (base p:Nat) (x:List UInt8×Int×List UInt8) (r:Ending) (w':World):Prop :=
 r=.returned (.int .u64 (val x.2.2))∧BE w' base p x.1 x.2.1∧w.grownBy w' (some p)
theorem Fg (w:World) (base p:Nat) (l:List UInt8) (e n:Int) (h:BE w base p l e) (hl:l.length≤2147483648) :
  Calls Tryz.prog 46 #[.pointer (some ⟨p,0,none⟩),.int .i64 n] w (NumP w base p (cut l e n (Ey n))):=by
 have HT:=Aa (take_any w base p l e n (Ey n) h hl (by simp[Ey];omega))
 clear h
 have hlen:(cut l e n (Ey n)).2.2.length≤8:=by
  unfold cut
  repeat' split
  all_goals simp
  rename_i h1 h2 h3
  simp[Ey] at h2
  omega
 generalize cut l e n (Ey n)=c at *
 obtain⟨l',e',out⟩:=c
 simp only at hlen
 go_enter Tryz.func46,Tryz.ntmps46
 go_wp2_with fail
 refine (Gz _ _).mono ?_
 rintro _ _ ⟨rfl,rfl⟩
 go_wp2_with fail
 refine HT.out.mono ?_
 rintro r w1 ⟨v,rfl,h1,h2,h3⟩
 obtain⟨A,cap,rfl,hcap,hr⟩:=h2.rsl
 have HC:=Aa (show BE w1 base p l' e' from h1)
 have HR:=Aa hr
 have HG:=Aa h3
 clear HT h1 h2 hr h3
 simp only at hcap
 go_wp2_with fail
 go_loop [5,14] (fun x j=>∃ k:Nat,k≤out.length∧j=.int .i64 k∧x=.int .u64 (val (out.take k))) (fun _ j=>out.length - (intOf j).toNat)
 case atStart=>exact⟨0,Nat.zero_le _,rfl,rfl⟩
 case round =>
  obtain⟨k,hk,rfl,rfl⟩:=hrel
  by_cases hlt:k<out.length
  ·obtain⟨b,off,rfl,hi⟩:=HR.out (by rintro rfl;simp at hlt)
   obtain⟨cs,_,hc,hR⟩:=hi k hlt
   have c0:=hc 0 (by omega)
   rw[show cs=[.int .u8 out[k].toNat] from hR] at c0
   simp only[Nat.mul_one,Nat.add_zero,List.getElem?_cons_zero] at c0
   have hv:=val_lt (out.take k)
   have hv2:val (out.take k)<72057594037927936:=Nat.lt_of_lt_of_le hv (Nat.le_trans (Nat.pow_le_pow_right (by omega) (show (out.take k).length≤7 by simp;omega)) (by decide))
   have HS:=Aa (show val (out.take (k+1))=val (out.take k)*256+out[k].toNat by rw[List.take_succ_eq_append_getElem hlt,Hc])
   have hb:=out[k].toNat_lt
   clear hc hR hi hv
   generalize val (out.take k)=x at *
   generalize out[k].toNat=y at *
   go_wp2
   go_round
   case rel=>exact⟨k+1,by omega,by go_num,by rw[HS.out,or_bytes x y hv2 hb]⟩
   case measure=>simp[intOf];omega
  ·have hke:k=out.length:=by omega
   have HK:=Aa hke;clear hke
   go_wp2
   go_ret
   refine⟨?_,HC.out,HG.out⟩
   have e:out.take k=out:=by rw[HK.out];exact List.take_length
   rw[e]
   rfl
theorem clone_any (w:World) (A:Option Addr) (n cap:Nat) (l:List UInt8) (hr:RSl 1 RU8 w l (.slice A n cap)) (hl:l.length≤2147483648) :
  Calls Tryz.prog 55 #[.slice A n cap] w (Owns8 w l):=by
 have HC:=Aa (Cx hr)
 obtain⟨A',cap',hv,hcap,hr⟩:=hr
 injection hv with e1 e2 e3
 subst e1 e2 e3
 have hnil:=fun (W:World)=>Lib.run_eql_slice_nil (P:=Tryz.prog) W 25 5 A l.length cap 0 0 Tryz.underlying25
 cases A with
 | none =>
  have hl0:l=[]:=by
   apply Decidable.byContradiction
   intro h
   obtain⟨b,off,h1,_⟩:=hr h
   cases h1
  have HL:=Aa hl0;clear hl0 hr
  go_enter Tryz.func55,Tryz.ntmps55
  go_wp2
  go_ret
  refine⟨_,rfl,?_,Below.refl _ _⟩
  rw[HL.out]
  exact World.ownsRow_nil _ _ _ _
 | some ad =>
  clear hr
  have hm:=fun (x:World)=>World.ownsRow_made x #[] 0 (base:=w.heap.size) (e:=5) (size:=1)
  have HM:=Aa (hm w (Nat.le_refl _) (by simp[maxLen]) rfl)
  clear hm
  go_enter Tryz.func55,Tryz.ntmps55
  go_wp2_with (first | (at_builtin;go_must (refine Ci rfl sl8 (.tmp 5) (.tmp 6) rfl HM.out rfl rfl (news:=u8s l) (fun h=>?_) (by simp[u8s]) u8s_one (by omega) (by omega) (AQ (Nat.le_refl _)) ?_);rotate_right;intro v' w' hown2 hg2 hat2))
  ·go_ret
   refine⟨_,rfl,by simpa using hown2,((Below.refl _ _).alloc (Nat.le_refl _) _).grown hg2 (AQ (Nat.le_refl _)) (by simp[Value.ownBlock])⟩
  ·obtain⟨b,off,h1,h2⟩:=HC.out h
   exact⟨b,off,h1,fun j u hu=>(World.cell?_alloc_lt w _ _ (B2 (h2 j u hu))).trans (h2 j u hu)⟩
def NewP (w:World) (l:List UInt8) (r:Ending) (w':World):Prop :=
 ∃ p,r=.returned (.pointer (some ⟨p,0,none⟩))∧BE w' w.heap.size p l 0∧Below w.heap.size w w'
theorem new_any (w:World) (A:Option Addr) (n cap:Nat) (l:List UInt8) (hr:RSl 1 RU8 w l (.slice A n cap)) (hl:l.length≤2147483648) :
  Calls Tryz.prog 45 #[.slice A n cap] w (NewP w l):=by
 have HT:=Aa (clone_any w A n cap l hr hl)
 clear hr
 go_enter Tryz.func45,Tryz.ntmps45
 go_wp2_with fail
 refine HT.out.mono ?_
 rintro r w1 ⟨v,rfl,hown,hb⟩
 clear HT
 rcases hown.2 with ⟨rfl,hn⟩ | ⟨g,cap1,cur,rfl,hg,hh,hnc,_,hcs,ht⟩
 ·have HN:=Aa hn;clear hn
  go_wp2
  go_ret
  refine⟨w1.heap.size,rfl,⟨hb.size,none,0,?_,by rw[HN.out];omega,fun hne=>absurd (List.eq_nil_of_length_eq_zero HN.out) hne⟩,hb.alloc hb.size _⟩
  rw[HN.out];exact heap_alloc_new w1 _
 ·have HT:=Aa ht
  have HH:=Aa hh
  clear ht hh
  go_wp2
  go_ret
  refine⟨w1.heap.size,rfl,⟨hb.size,some ⟨g,0,none⟩,cap1,heap_alloc_new w1 _,hnc,fun hne=>⟨g,0,cur,rfl,hg,heap_alloc HH.out,fun j hj=>?_⟩⟩,hb.alloc hb.size _⟩
  have h1:(cur.toList.take (l.length*1))[j]?=(u8s l)[j]?:=by rw[HT.out]
  rw[List.getElem?_take,if_pos (by omega)] at h1
  simpa[u8s,hj] using h1
section
variable {w w':World} {o o':Obj}
theorem hk0:Below w.heap.size w w.drew:=(Below.refl _ _).drew
end
theorem He {w:World} {base base':Nat} {e:TypeId} {size n:Nat} {v:Value} {xs:List Value} (h:w.ownsRow base e size v n xs) (hb:base'≤base):w.ownsRow base' e size v n xs:=by
 refine⟨h.1,?_⟩
 rcases h.2 with h2 | ⟨g,cap,cur,h1,h2,h3⟩
 ·exact .inl h2
 ·exact .inr ⟨g,cap,cur,h1,Nat.le_trans hb h2,h3⟩
theorem BE.set_other {w:World} {base p:Nat} {l:List UInt8} {e:Int} (h:BE w base p l e) {q i:Nat} {cs:Array Value} {t:TypeId} {fr:Nat×Nat} (hq:w.heap[q]?=some (.cells cs t fr)) (h1:t≠265) (h2:t≠5) (u:Value) :
  BE (w.setCell ⟨q,i,none⟩ u) base p l e:=by
 obtain⟨hb,A,cap,hp,hc,hd⟩:=h
 have hne:∀ {g:Nat} {cs':Array Value} {t':TypeId} {fr':Nat×Nat},w.heap[g]?=some (.cells cs' t' fr')→t≠t'→g≠q:=by
  intro g cs' t' fr' hg hn e
  rw[e,hq] at hg
  injection hg with hg
  injection hg with _ hg _
  exact hn hg
 refine⟨hb,A,cap,AL u hp (hne hp h1),hc,fun hn=>?_⟩
 obtain⟨g,off,cur,h3,h4,h5,h6⟩:=hd hn
 exact⟨g,off,cur,h3,h4,AL u h5 (hne h5 h2),h6⟩
theorem step_app {P:Program} {ops:Array Oper} {o:Oper} {a:Act} {w:World} {K:Act→World→Prop} {Q:Exit→Act→World→Prop} {E:Prop} (hgd:o.guard=none) {base:Nat} {t e:TypeId} {z:Value} {size bytes:Nat} (T:SlT P t e z size bytes)
  (s x:Operand) (ho:o.op=.call { callee:=.builtin .append,args:=#[s,x],argTypes:=#[t,t] })
  {v:Value} {n:Nat} {xs:List Value} (hown:w.ownsRow base e size v n xs) (hs:a.eval s=v) (A:Option Addr) (m c:Nat) (hx:a.eval x=.slice A m c) {news:List Value} (hc:Bk w A news) (hl:news.length=m*size)
  (h1:∀ u∈news,u.oneCell'=true) (hbytes:(n+m)*bytes≤140737488355328) (h63:n+m≤9223372036854775807) (hbase:base≤w.heap.size)
  (h:∀ v' w',w'.ownsRow base e size v' (n+m) (xs++news)→w.grownBy w' v.ownBlock→(v'.ownBlock=v.ownBlock∨v'.ownBlock=some w.heap.size)→K (a.put o.dst v') w') :
  if Region.wanted o (yielded ops a.tmps)=true then Oper.wp P o a w K Q else E:=by
 have hw:Region.wanted o (yielded ops a.tmps)=true:=by simp[Region.wanted,hgd]
 rw[if_pos hw]
 exact wp_app T s x ho hown hs hx hc hl h1 hbytes h63 hbase h
end Go.Proofs.YtmcndlofaanjiaaGreat
