/- Texts of one claim, laid together: Make MapI Vm Mpp ReqL -/
import Derived.Laws.OwnMore
import Derived.Maps.OwnSet
import Derived.DeepKeys4
import Derived.WideKeyEntry
import Derived.Test.YtmcndlofaanjiaaGreatJo03
import Derived.Test.YtmcndlofaanjiaaGreatJo01
/- make with a size that is a variable. -/
namespace Go.Proofs.YtmcndlofaanjiaaGreat
open Go.RowKit
set_option linter.unusedVariables false
set_option maxRecDepth 100000
set_option maxHeartbeats 8000000
theorem wp_make {P:Program} {o:Oper} {a:Act} {w:World} {K:Act→World→Prop} {Q:Exit→Act→World→Prop} {t e:TypeId} {z:Value} {size bytes:Nat} (T:SlT P t e z size bytes)
  (x y:Operand) (ho:o.op=.makeSlice t x y) {kl kc:IntKind} {n:Nat} (hx:a.eval x=.int kl n) (hy:a.eval y=.int kc n) (hbytes:bytes*n≤281474976710656) (h63:n≤9223372036854775807)
  (h:∀ w',w'.ownsRow w.heap.size e size (.slice (some ⟨w.heap.size,0,none⟩) n n) n (madeCells z.cells (n*size)).toList→Le w w'→K (a.put o.dst (.slice (some ⟨w.heap.size,0,none⟩) n n)) w'):o.wp P a w K Q:=by
 obtain⟨i,hi,hz,hsz,hby⟩:=info_parts T.info
 obtain⟨w',hr,h2,h3⟩:=run_make_full (P:=P) w w.heap.size t e i z size T.under hi hz hsz kl kc n (by rw[hby];exact hbytes) (by simp only[maxLen];omega) (Nat.le_refl _)
 unfold Oper.wp execOp
 simp only[ho,hx,hy,Sem.run_bind,Sem.run_pure]
 rw[hr]
 exact h w' h2 ⟨⟨h3.os,h3.tape,h3.output,h3.size,fun k hk=>h3.block k hk (by simp)⟩⟩
theorem CC {P:Program} {ops:Array Oper} {rest:List Oper} {o:Oper} {a:Act} {w:World} {Q:Exit→Act→World→Prop} (hgd:o.guard=none) {t e:TypeId} {z:Value} {size bytes:Nat} (T:SlT P t e z size bytes)
  (x y:Operand) (ho:o.op=.makeSlice t x y) {kl kc:IntKind} {n:Nat} (hx:a.eval x=.int kl n) (hy:a.eval y=.int kc n) (hbytes:bytes*n≤281474976710656) (h63:n≤9223372036854775807)
  (h:∀ w',w'.ownsRow w.heap.size e size (.slice (some ⟨w.heap.size,0,none⟩) n n) n (madeCells z.cells (n*size)).toList→Le w w'→wpList P ops Q rest (a.put o.dst (.slice (some ⟨w.heap.size,0,none⟩) n n)) w'):wpList P ops Q (o::rest) a w :=
 wpList_plain hgd fun _ hK=>wp_make T x y ho hx hy hbytes h63 fun w' h2 h3=>hK _ _ (h w' h2 h3)
def MapI (w:World) (b n:Nat) (f:Nat→Option Nat):Prop :=
 ∃ D:DataW Unit,w.ownsMap Tryz.prog 254 (plainElem Tryz.prog 3) b n D∧∀ k:Nat,k<65536→Maps.has D (.int .u16 k)=(f k).isSome∧∀ i z,f k=some i→D.atKey (.int .u16 k) z=.lit (.int .i64 i)
def mupd (f:Nat→Option Nat) (k:Nat) (v:Option Nat):Nat→Option Nat:=fun x=>if x=k then v else f x
structure Fp (S:Nat→Prop) (w w':World):Prop where
 os:w'.os=w.os
 tape:w'.tape=w.tape
 output:w'.output=w.output
 size:w.heap.size≤w'.heap.size
 block:∀ k,k<w.heap.size→¬ S k→w'.heap[k]?=w.heap[k]?
section
variable {S:Nat→Prop} {w w' w'':World}
theorem Fp.refl (S:Nat→Prop) (w:World):Fp S w w:=⟨rfl,rfl,rfl,Nat.le_refl _,fun _ _ _=>rfl⟩
theorem Fp.trans (h:Fp S w w') (h':Fp S w' w''):Fp S w w'' :=
 ⟨h'.os.trans h.os,h'.tape.trans h.tape,h'.output.trans h.output,Nat.le_trans h.size h'.size,fun k hk hs=>(h'.block k (Nat.lt_of_lt_of_le hk h.size) hs).trans (h.block k hk hs)⟩
theorem Fp.of_le (h:Le w w'):Fp S w w':=⟨h.out.os,h.out.tape,h.out.output,h.out.size,fun k hk _=>h.out.block k hk⟩
theorem Fp.of_grown {b:Nat} (h:w.grownBy w' (some b)) (hb:S b):Fp S w w':=⟨h.os,h.tape,h.output,h.size,fun k hk hs=>h.block k hk (fun e=>hs (by injection e with e;rw[e];exact hb))⟩
theorem Fp.mono {T:Nat→Prop} (h:Fp S w w') (hs:∀ k,S k→T k):Fp T w w':=⟨h.os,h.tape,h.output,h.size,fun k hk ht=>h.block k hk (fun e=>ht (hs k e))⟩
theorem Fp.heap (h:Fp S w w') {k:Nat} {o:Obj} (hk:w.heap[k]?=some o) (hs:¬ S k):w'.heap[k]?=some o:=(h.block k (Ah hk) hs).trans hk
theorem Fp.setCell (h:Fp S w w') {p:Addr} (hp:S p.block) (u:Value):Fp S w (w'.setCell p u) :=
 h.trans ⟨rfl,rfl,rfl,by simp[World.setCell],fun k hk hs=>Below.heap_setCell _ _ _ _ (fun e=>hs (by rw[e];exact hp))⟩
end
def B8 (w:World) (l:List UInt8) (v:Value):Prop :=
 (l=[]∧v=.slice none 0 0)∨∃ g,v=.slice (some ⟨g,0,none⟩) l.length l.length∧w.heap[g]?=some (.cells (u8s l).toArray 5 (0,0))
def rdV (v:Value):Option (DataW Value×List MemPlace):=some (.held v,[])
structure Bz (P:Program) (w:World) (b:Nat) (k:TypeId) (l:List (Value×Value)):Prop where
 keys:(l.map (·.1)).Pairwise (·≠·)
 out:∃ D:DataW Value,w.ownsMap P k rdV b l.length D∧Maps.size D=l.length ∧
  (∀ key v lit,(key,v)∈l→keyOf P k key=some lit→Maps.has D lit=true∧∀ z,D.atKey lit z=.held v)∧(∀ key lit,keyOf P k key=some lit→(∀ v,(key,v)∉l)→Maps.has D lit=false)
section
variable {P:Program} {w w':World} {b:Nat} {k t e:TypeId} {l:List (Value×Value)} {key v z:Value} {lit:Lit}
theorem Cm {R:Value→Option (DataW Value×List MemPlace)} {n:Nat} {D:DataW Value} (h:w.ownsMap P k R b n D):w.ownsMap P k R b (Maps.size D) D:=by
 obtain⟨es,clock,hb,F,hs,rfl⟩:=h
 exact⟨es,clock,hb,F,by simp[Maps.size,length_sorted],rfl⟩
theorem Bz.made (P:Program) (w:World) (k:TypeId):Bz P (w.alloc (.map #[] 0)) w.heap.size k [] :=
 ⟨.nil,.map [],World.ownsMap_made w _ _ _,rfl,fun _ _ _ h=>by simp at h,fun _ _ _ _=>rfl⟩
theorem Bz.same (h:Bz P w b k l) (he:w'.heap[b]?=w.heap[b]?):Bz P w' b k l:=by
 obtain⟨D,⟨es,clock,hb,r⟩,h2⟩:=h.out
 exact⟨h.keys,D,⟨es,clock,he.trans hb,r⟩,h2⟩
theorem Bz.lt (h:Bz P w b k l):b<w.heap.size:=by obtain⟨D,h1,_⟩:=h.out;exact h1.lt
theorem Bz.fp {S:Nat→Prop} (h:Bz P w b k l) (hf:Fp S w w') (hs:¬ S b):Bz P w' b k l:=h.same (hf.block b h.lt hs)
theorem Bz.le (h:Bz P w b k l) (hl:Le w w'):Bz P w' b k l:=h.same (hl.out.block b h.lt)
theorem Bz.grown {g:Nat} (h:Bz P w b k l) (hg:w.grownBy w' (some g)) (hne:b≠g):Bz P w' b k l:=h.same (hg.block b h.lt (by intro e;injection e with e;exact hne e))
theorem Bz.ne {g:Nat} {cs:Array Value} {T:TypeId} {fr:Nat×Nat} (h:Bz P w b k l) (hg:w.heap[g]?=some (.cells cs T fr)):b≠g:=by
 rintro rfl
 obtain⟨D,⟨es,clock,hb,_⟩,_⟩:=h.out
 rw[hg] at hb
 cases hb
theorem Bz.hit (h:Bz P w b k l) (K:Maps.Keyed P k) (ht:P.underlying t=some (.map k e)) (hz:(zeroValue e).run P w=.ok z w) (hk:keyOf P k key=some lit) (hm:(key,v)∈l) :
  (Instr.lookup t (.map (some b)) key true).run P w=.ok (.tuple #[v,.bool true]) w∧(Instr.lookup t (.map (some b)) key false).run P w=.ok v w:=by
 obtain⟨D,h1,_,h2,_⟩:=h.out
 obtain⟨h3,h4⟩:=h2 key v lit hm hk
 constructor
 ·obtain⟨u,ps,hr,hu⟩:=h1.look_ok K ht hz (show rdV z=some (.held z,[]) from rfl) hk
  rw[h4] at hu
  simp only[rdV,Option.some.injEq,Prod.mk.injEq,DataW.held.injEq] at hu
  rw[hr,h3,hu.1]
 ·obtain⟨u,ps,hr,hu⟩:=h1.lookup K ht hz (show rdV z=some (.held z,[]) from rfl) hk
  rw[h4] at hu
  simp only[rdV,Option.some.injEq,Prod.mk.injEq,DataW.held.injEq] at hu
  rw[hr,hu.1]
theorem Bz.miss (h:Bz P w b k l) (K:Maps.Keyed P k) (ht:P.underlying t=some (.map k e)) (hz:(zeroValue e).run P w=.ok z w) (hk:keyOf P k key=some lit) (hm:∀ v,(key,v)∉l) :
  (Instr.lookup t (.map (some b)) key true).run P w=.ok (.tuple #[z,.bool false]) w∧(Instr.lookup t (.map (some b)) key false).run P w=.ok z w:=by
 obtain⟨D,h1,_,_,h2⟩:=h.out
 have h3:=h2 key lit hk hm
 constructor
 ·obtain⟨u,ps,hr,hu⟩:=h1.look_ok K ht hz (show rdV z=some (.held z,[]) from rfl) hk
  rw[Maps.atKey_of_not_has h3] at hu
  simp only[rdV,Option.some.injEq,Prod.mk.injEq,DataW.held.injEq] at hu
  rw[hr,h3,hu.1]
 ·obtain⟨u,ps,hr,hu⟩:=h1.lookup K ht hz (show rdV z=some (.held z,[]) from rfl) hk
  rw[Maps.atKey_of_not_has h3] at hu
  simp only[rdV,Option.some.injEq,Prod.mk.injEq,DataW.held.injEq] at hu
  rw[hr,hu.1]
theorem Bz.len (h:Bz P w b k l) (ht:P.underlying t=some (.map k e)) (ty:TypeId):(Builtin.len_ #[t] ty #[.map (some b)]).run P w=.ok (.int .i64 l.length) w:=by
 obtain⟨D,h1,h2,_⟩:=h.out
 rw[h1.len ht ty,h2]
theorem EG {K:Maps.Keyed P k} {a b:Value} {la lb:Lit} (ha:keyOf P k a=some la) (hb:keyOf P k b=some lb) (hne:a≠b):la≠lb:=by
 rintro rfl
 exact hne (K.inj ha hb)
theorem Bz.putNew (h:Bz P w b k l) (K:Maps.Keyed P k) (ht:P.underlying t=some (.map k e)) (hn:l.length≤1000000) (hk:keyOf P k key=some lit) (hm:∀ v,(key,v)∉l) (v:Value) :
  ∃ w',(Instr.mapUpdate t (.map (some b)) key v).run P w=.ok () w'∧Bz P w' b k (l++[(key,v)])∧w.grownBy w' (some b):=by
 obtain⟨D,h1,h2,h3,h4⟩:=h.out
 obtain⟨w',hr,h5,h6⟩:=h1.update K ht (Nat.lt_of_le_of_lt hn (by decide)) hk (show rdV v=some (.held v,[]) from rfl)
 have hsz:Maps.size (D.put lit (.held v))=l.length+1:=by rw[Maps.size_put (h1.tidy K),h4 key lit hk hm,if_neg (by simp),h2]
 have h7:=Cm h5
 rw[hsz] at h7
 refine⟨w',hr,⟨?_,_,by simpa using h7,by simpa using hsz,fun key' v' lit' hm' hk'=>?_,fun key' lit' hk' hm'=>?_⟩,h6⟩
 ·rw[List.map_append,List.pairwise_append]
  refine⟨h.keys,by simp,fun a ha c hc=>?_⟩
  obtain⟨p,hp,rfl⟩:=List.mem_map.1 ha
  simp only[List.map_cons,List.map_nil,List.mem_singleton] at hc
  subst hc
  intro e
  exact hm p.2 (by rw[← e];exact hp)
 ·rcases List.mem_append.1 hm' with hm' | hm'
  ·have hne:key'≠key:=fun e=>hm v' (by rw[← e];exact hm')
   have hl:=EG (K:=K) hk' hk hne
   obtain⟨a1,a2⟩:=h3 key' v' lit' hm' hk'
   exact⟨by rw[Maps.has_put_other hl];exact a1,fun z=>by rw[Maps.atKey_put_other hl];exact a2 z⟩
  ·rw[List.mem_singleton] at hm'
   injection hm' with e1 e2
   subst e1 e2
   obtain rfl:lit'=lit:=Option.some.inj (hk'.symm.trans hk)
   exact⟨Maps.has_put_same h1.isMap (K.key hk) _,fun z=>Maps.atKey_put_same h1.isMap (K.key hk) _ z⟩
 ·have hne:key'≠key:=fun e=>hm' v (by rw[e];exact List.mem_append_right _ (List.mem_singleton.2 rfl))
  rw[Maps.has_put_other (EG (K:=K) hk' hk hne)]
  exact h4 key' lit' hk' fun v hv=>hm' v (List.mem_append_left _ hv)
theorem Bz.putOld {l1 l2:List (Value×Value)} {v0:Value} (h:Bz P w b k (l1++(key,v0)::l2)) (K:Maps.Keyed P k) (ht:P.underlying t=some (.map k e)) (hn:(l1++(key,v0)::l2).length≤1000000) (hk:keyOf P k key=some lit) (v:Value) :
  ∃ w',(Instr.mapUpdate t (.map (some b)) key v).run P w=.ok () w'∧Bz P w' b k (l1++(key,v)::l2)∧w.grownBy w' (some b):=by
 obtain⟨D,h1,h2,h3,h4⟩:=h.out
 obtain⟨w',hr,h5,h6⟩:=h1.update K ht (Nat.lt_of_le_of_lt hn (by decide)) hk (show rdV v=some (.held v,[]) from rfl)
 have hmem:(key,v0)∈l1++(key,v0)::l2:=List.mem_append_right _ (List.mem_cons_self ..)
 have hsz:Maps.size (D.put lit (.held v))=(l1++(key,v)::l2).length:=by rw[Maps.size_put (h1.tidy K),(h3 key v0 lit hmem hk).1,if_pos rfl,h2];simp
 have h7:=Cm h5
 rw[hsz] at h7
 have hks:=h.keys
 have e0:(l1++(key,v)::l2).map (·.1)=(l1++(key,v0)::l2).map (·.1):=by simp
 have hoth:∀ key' v',(key',v')∈l1++(key,v)::l2→key'≠key→(key',v')∈l1++(key,v0)::l2:=fun key' v' hm hne=>by
  rcases List.mem_append.1 hm with hm | hm
  ·exact List.mem_append_left _ hm
  ·rcases List.mem_cons.1 hm with hm | hm
   ·injection hm with e _;exact absurd e hne
   ·exact List.mem_append_right _ (List.mem_cons_of_mem _ hm)
 have hself:∀ v',(key,v')∈l1++(key,v)::l2→v'=v:=fun v' hm=>by
  rw[List.map_append,List.map_cons,List.pairwise_append] at hks
  obtain⟨_,hb2,hc⟩:=hks
  obtain⟨hb2,_⟩:=List.pairwise_cons.1 hb2
  rcases List.mem_append.1 hm with hm | hm
  ·exact absurd rfl (hc key (List.mem_map.2 ⟨_,hm,rfl⟩) key (List.mem_cons_self ..))
  ·rcases List.mem_cons.1 hm with hm | hm
   ·injection hm with _ e
   ·exact absurd rfl (hb2 key (List.mem_map.2 ⟨_,hm,rfl⟩))
 refine⟨w',hr,⟨by rw[e0];exact hks,_,h7,hsz,fun key' v' lit' hm' hk'=>?_,fun key' lit' hk' hm'=>?_⟩,h6⟩
 ·by_cases hne:key'=key
  ·subst hne
   obtain rfl:lit'=lit:=Option.some.inj (hk'.symm.trans hk)
   rw[hself v' hm']
   exact⟨Maps.has_put_same h1.isMap (K.key hk) _,fun z=>Maps.atKey_put_same h1.isMap (K.key hk) _ z⟩
  ·have hl:=EG (K:=K) hk' hk hne
   obtain⟨a1,a2⟩:=h3 key' v' lit' (hoth key' v' hm' hne) hk'
   exact⟨by rw[Maps.has_put_other hl];exact a1,fun z=>by rw[Maps.atKey_put_other hl];exact a2 z⟩
 ·have hne:key'≠key:=fun e=>hm' v (by rw[e];exact List.mem_append_right _ (List.mem_cons_self ..))
  rw[Maps.has_put_other (EG (K:=K) hk' hk hne)]
  refine h4 key' lit' hk' fun v1 hv1=>hm' v1 ?_
  rcases List.mem_append.1 hv1 with hm | hm
  ·exact List.mem_append_left _ hm
  ·rcases List.mem_cons.1 hm with hm | hm
   ·injection hm with e _;exact absurd e hne
   ·exact List.mem_append_right _ (List.mem_cons_of_mem _ hm)
theorem Bz.del {l1 l2:List (Value×Value)} {v0:Value} (h:Bz P w b k (l1++(key,v0)::l2)) (K:Maps.Keyed P k) (ht:P.underlying t=some (.map k e)) (hk:keyOf P k key=some lit) (ty:TypeId) :
  ∃ w',(Builtin.delete_ #[t,k] ty #[.map (some b),key]).run P w=.ok (.tuple #[]) w'∧Bz P w' b k (l1++l2)∧w.grownBy w' (some b):=by
 obtain⟨D,h1,h2,h3,h4⟩:=h.out
 obtain⟨w',hr,h5,h6⟩:=h1.drop K ht hk ty
 have hmem:(key,v0)∈l1++(key,v0)::l2:=List.mem_append_right _ (List.mem_cons_self ..)
 have hsz:Maps.size (D.del lit)=(l1++l2).length:=by
  have:=Maps.size_del (k:=lit) (h1.tidy K)
  rw[(h3 key v0 lit hmem hk).1,if_pos rfl,h2] at this
  simp only[List.length_append,List.length_cons] at this ⊢
  omega
 have h7:=Cm h5
 rw[hsz] at h7
 have hks:=h.keys
 rw[List.map_append,List.map_cons,List.pairwise_append] at hks
 obtain⟨ha,hb2,hc⟩:=hks
 obtain⟨hb2,hb3⟩:=List.pairwise_cons.1 hb2
 have hno:∀ v',(key,v')∉l1++l2:=fun v' hm=>by
  rcases List.mem_append.1 hm with hm | hm
  ·exact hc key (List.mem_map.2 ⟨_,hm,rfl⟩) key (List.mem_cons_self ..) rfl
  ·exact hb2 key (List.mem_map.2 ⟨_,hm,rfl⟩) rfl
 have hin:∀ p,p∈l1++l2→p∈l1++(key,v0)::l2:=fun p hm=>by
  rcases List.mem_append.1 hm with hm | hm
  ·exact List.mem_append_left _ hm
  ·exact List.mem_append_right _ (List.mem_cons_of_mem _ hm)
 refine⟨w',hr,⟨?_,_,h7,hsz,fun key' v' lit' hm' hk'=>?_,fun key' lit' hk' hm'=>?_⟩,h6.grown⟩
 ·rw[List.map_append,List.pairwise_append]
  exact⟨ha,hb3,fun x hx y hy=>hc x hx y (List.mem_cons_of_mem _ hy)⟩
 ·have hne:key'≠key:=fun e=>hno v' (by rw[← e];exact hm')
  have hl:=EG (K:=K) hk' hk hne
  obtain⟨a1,a2⟩:=h3 key' v' lit' (hin _ hm') hk'
  exact⟨by rw[Maps.has_del_other hl];exact a1,fun z=>by rw[Maps.atKey_del_other hl];exact a2 z⟩
 ·by_cases hne:key'=key
  ·subst hne
   obtain rfl:lit'=lit:=Option.some.inj (hk'.symm.trans hk)
   exact Maps.has_del_same
  ·rw[Maps.has_del_other (EG (K:=K) hk' hk hne)]
   refine h4 key' lit' hk' fun v1 hv1=>hm' v1 ?_
   rcases List.mem_append.1 hv1 with hm | hm
   ·exact List.mem_append_left _ hm
   ·rcases List.mem_cons.1 hm with hm | hm
    ·injection hm with e _;exact absurd e hne
    ·exact List.mem_append_right _ hm
end
theorem BB {P:Program} {ops:Array Oper} {rest:List Oper} {o:Oper} {a:Act} {w w':World} {Q:Exit→Act→World→Prop} {t:TypeId} (hgd:o.guard=none) (m y x:Operand) (hop:o.op=.mapUpdate t m y x) {vm vy vx:Value} (hm:a.eval m=vm) (hy:a.eval y=vy) (hx:a.eval x=vx)
  (hr:(Instr.mapUpdate t vm vy vx).run P w=.ok () w') (h:wpList P ops Q rest (a.put o.dst undef) w'):wpList P ops Q (o::rest) a w:=by
 refine wpList_plain hgd fun K' hK'=>?_
 unfold Oper.wp
 simp[execOp,hop,hm,hx,hy,hr,Result.andThen]
 exact hK' _ _ h
theorem wpl_del {P:Program} {ops:Array Oper} {rest:List Oper} {o:Oper} {a:Act} {w w':World} {Q:Exit→Act→World→Prop} {t k:TypeId} (hgd:o.guard=none) (m y:Operand) (hop:o.op=.call { callee:=.builtin .delete,args:=#[m,y],argTypes:=#[t,k] }) {vm vy:Value} (hm:a.eval m=vm) (hy:a.eval y=vy)
  (hr:(Builtin.delete_ #[t,k] o.type #[vm,vy]).run P w=.ok (.tuple #[]) w') (h:wpList P ops Q rest (a.put o.dst (.tuple #[])) w'):wpList P ops Q (o::rest) a w:=by
 refine wpList_plain hgd fun K' hK'=>?_
 unfold Oper.wp execOp
 simp only[hop,resolve,invoke,builtin,Sem.run_bind,Sem.run_pure,Result.andThen_ok,List.map_toArray,List.map_cons,List.map_nil,hm,hy]
 rw[hr]
 exact hK' _ _ h
section
open Go.WideMaps (KeyLaw)
def addK {α:Type} [DecidableEq α] (ks:List α) (x:α):List α:=if x∈ks then ks else ks++[x]
def Ce (P:Program) (w:World) (b:Nat) (k:TypeId) {α:Type} (enc:α→Value) (ks:List α):Prop :=
 ∃ l,Bz P w b k l∧l.map (·.1)=ks.map enc∧∀ p∈l,∃ n:Int,p.2=.int .i64 n
section
variable {P:Program} {w w':World} {b:Nat} {k t e:TypeId} {l:List (Value×Value)} {key v z:Value} {lit:Lit} {α:Type} {enc:α→Value} {ks:List α}
theorem Ce.made (P:Program) (w:World) (k:TypeId) (enc:α→Value):Ce P (w.alloc (.map #[] 0)) w.heap.size k enc []:=⟨[],Bz.made P w k,rfl,by simp⟩
theorem Ce.same (h:Ce P w b k enc ks) (he:w'.heap[b]?=w.heap[b]?):Ce P w' b k enc ks:=by obtain⟨l,h1,h2⟩:=h;exact⟨l,h1.same he,h2⟩
theorem Ce.lt (h:Ce P w b k enc ks):b<w.heap.size:=by obtain⟨l,h1,h2⟩:=h;exact h1.lt
theorem Ce.le (h:Ce P w b k enc ks) (hl:Le w w'):Ce P w' b k enc ks:=h.same (hl.out.block b h.lt)
theorem Ce.len (h:Ce P w b k enc ks) (ht:P.underlying t=some (.map k e)) (ty:TypeId):(Builtin.len_ #[t] ty #[.map (some b)]).run P w=.ok (.int .i64 ks.length) w:=by
 obtain⟨l,h1,h2,_⟩:=h
 have h3:l.length=ks.length:=by have:=congrArg List.length h2;simpa using this
 rw[h1.len ht ty,h3]
theorem Bw (w:World) (b:Nat) (o:Obj):w.grownBy (ChangeMaps.setBlock w b o) (some b):=by
 refine⟨rfl,rfl,rfl,by simp[ChangeMaps.setBlock],fun k hk hne=>?_⟩
 simp only[ChangeMaps.setBlock]
 exact Array.getElem?_setIfInBounds_ne (fun e=>hne (by rw[e]))
theorem Ce.plus [DecidableEq α] (h:Ce P w b k enc ks) (K:KeyLaw P k) (ht:P.underlying t=some (.map k e)) (hz:∀ u:World,(zeroValue e).run P u=.ok (.int .i64 0) u) (hn:ks.length≤1000000) (x:α) (hk:keyOf P k (enc x)=some lit) (hi:∀ y,enc y=enc x→y=x) :
  ∃ (n:Int) (st:Nat) (es1:Array MapEntry) (clock1:Nat),(∀ w':World,w'.heap[b]?=w.heap[b]?→(Instr.mapEntry t (.map (some b)) (enc x)).run P w'=.ok (.tuple #[.int .i64 n,.int .i64 st]) (ChangeMaps.setBlock w' b (.map es1 clock1))) ∧
   (∀ w':World,w'.heap[b]?=some (.map es1 clock1)→∃ ks',Ce P w' b k enc ks') ∧
   ∀ (w2:World) (m:Int),w2.heap[b]?=some (.map es1 clock1)→∃ w3,(Instr.entryStore t (.map (some b)) (.int .i64 st) (.int .i64 m)).run P w2=.ok () w3∧w2.grownBy w3 (some b)∧Ce P w3 b k enc (addK ks x):=by
 have h0:=h
 obtain⟨l,hM,hl,hv⟩:=h
 have hll:l.length=ks.length:=by have:=congrArg List.length hl;simpa using this
 obtain⟨D,⟨es,clock,hb,F,hsz,hD⟩,h2,h3,h4⟩:=hM.out
 -- what is written in the end
 have hput:∀ m:Int,∃ w',(Instr.mapUpdate t (.map (some b)) (enc x) (.int .i64 m)).run P w=.ok () w'∧Ce P w' b k enc (addK ks x):=fun m=>by
  by_cases hx:x∈ks
  ·obtain⟨i,hi',ei⟩:=List.getElem_of_mem hx
   have hil:i<l.length:=by omega
   have e1:l[i].1=enc x:=by
    have:=congrArg (fun q=>q[i]?) hl
    simp only[List.getElem?_map] at this
    rw[List.getElem?_eq_getElem hil,List.getElem?_eq_getElem hi',Option.map_some,Option.map_some] at this
    rw[← ei]
    exact Option.some.inj this
   have el:l=l.take i++(enc x,l[i].2)::l.drop (i+1):=by
    rw[← e1]
    show l=l.take i++l[i]::l.drop (i+1)
    rw[← List.drop_eq_getElem_cons hil,List.take_append_drop]
   rw[el] at hM
   obtain⟨w',hr,hM',_⟩:=hM.putOld (Maps.Keyed.of_law K) ht (by rw[← el];omega) hk (.int .i64 m)
   refine⟨w',hr,_,hM',?_,fun p hp=>?_⟩
   ·rw[addK,if_pos hx,← hl]
    conv=>rhs;rw[el]
    simp
   ·rcases List.mem_append.1 hp with hp | hp
    ·exact hv p (by rw[el];exact List.mem_append_left _ hp)
    ·rcases List.mem_cons.1 hp with rfl | hp
     ·exact⟨m,rfl⟩
     ·exact hv p (by rw[el];exact List.mem_append_right _ (List.mem_cons_of_mem _ hp))
  ·have hno:∀ v,(enc x,v)∉l:=fun v hvm=>by
    have:enc x∈l.map (·.1):=List.mem_map.2 ⟨_,hvm,rfl⟩
    rw[hl] at this
    obtain⟨y,hy,ey⟩:=List.mem_map.1 this
    rw[hi y ey] at hy
    exact hx hy
   obtain⟨w',hr,hM',_⟩:=hM.putNew (Maps.Keyed.of_law K) ht (by omega) hk hno (.int .i64 m)
   refine⟨w',hr,_,hM',?_,fun p hp=>?_⟩
   ·rw[addK,if_neg hx,List.map_append,hl,List.map_append]
    rfl
   ·rcases List.mem_append.1 hp with hp | hp
    ·exact hv p hp
    ·rw[List.mem_singleton] at hp
     subst hp
     exact⟨m,rfl⟩
 -- what is laid first
 have hlay:∃ (n:Int) (st:Nat) (es1:Array MapEntry) (clock1:Nat),(∀ w':World,w'.heap[b]?=w.heap[b]?→(Instr.mapEntry t (.map (some b)) (enc x)).run P w'=.ok (.tuple #[.int .i64 n,.int .i64 st]) (ChangeMaps.setBlock w' b (.map es1 clock1)))∧(∀ w':World,w'.heap[b]?=some (.map es1 clock1)→∃ ks',Ce P w' b k enc ks'):=by
  rcases K.find w hk es.toList F.keys with ⟨g1,g2⟩ | ⟨j,e0,g1,g2,g3⟩
  ·refine⟨0,clock,es.push ⟨enc x,.int .i64 0,clock⟩,clock+1,fun w' hw'=>?_,fun w' hw'=>?_⟩
   ·have hb':=hw'.trans hb
    rcases K.find w' hk es.toList F.keys with ⟨f1,f2⟩ | ⟨j,e1,f1,f2,f3⟩
    ·simp[Instr.mapEntry,run_underlying ht,MapKept.run_getObj_map hb',K.check w' false hk,f1,hz,MapKept.run_setObj_map _ hb',Result.andThen,ChangeMaps.setBlock,goInt]
    ·exact absurd f3 (g2 e1 (List.mem_of_getElem? f2))
   ·obtain⟨w'',hr,hc⟩:=hput 0
    have hu:(Instr.mapUpdate t (.map (some b)) (enc x) (.int .i64 0)).run P w=.ok () (ChangeMaps.setBlock w b (.map (es.push ⟨enc x,.int .i64 0,clock⟩) (clock+1))):=by
     simp[Instr.mapUpdate,run_underlying ht,MapKept.run_getObj_map hb,K.check w false hk,g1,MapKept.run_setObj_map _ hb,Result.andThen,ChangeMaps.setBlock]
    rw[hu] at hr
    injection hr with _ hr
    subst hr
    exact⟨_,hc.same (hw'.trans (ChangeMaps.heap_setBlock_same hb _).symm)⟩
  ·obtain⟨n,hn0⟩:∃ n:Int,e0.val=.int .i64 n:=by
    have hat:=WideElems.atKey_some K F hk (List.mem_of_getElem? g2) g3 (z:=(.held e0.val,[])) rfl .nil
    rw[← hD] at hat
    by_cases hin:∃ v,(enc x,v)∈l
    ·obtain⟨v,hin⟩:=hin
     have:=(h3 (enc x) v lit hin hk).2 .nil
     rw[this] at hat
     injection hat with hat
     obtain⟨n,hn⟩:=hv _ hin
     exact⟨n,by rw[← hat];exact hn⟩
    ·have h5:=h4 (enc x) lit hk (fun v hv=>hin ⟨v,hv⟩)
     rw[Maps.atKey_of_not_has h5] at hat
     cases hat
   refine⟨n,e0.born,es,clock,fun w' hw'=>?_,fun w' hw'=>⟨ks,h0.same (hw'.trans hb.symm)⟩⟩
   have hb':=hw'.trans hb
   rcases K.find w' hk es.toList F.keys with ⟨f1,f2⟩ | ⟨j',e1,f1,f2,f3⟩
   ·exact absurd g3 (f2 e0 (List.mem_of_getElem? g2))
   ·have hjj:j'=j:=Classical.byContradiction fun hne=>WideElems.other_key F g2 f2 hne (f3.trans g3.symm)
    subst hjj
    rw[g2] at f2
    injection f2 with f2
    subst f2
    have hj:es[j']?=some e0:=by simpa using g2
    have hsame:es.modify j' (fun e=>{ e with key:=enc x })=es:=by
     apply Array.ext'
     rw[Array.toList_modify,ChangeMaps.modify_eq_set _ _ _ _ g2]
     have:({ e0 with key:=enc x }:MapEntry)=e0:=by rw[← g3]
     rw[this]
     exact WideElems.set_self _ _ _ g2
    simp[Instr.mapEntry,run_underlying ht,MapKept.run_getObj_map hb',K.check w' false hk,f1,hj,g3,K.stays w' hk,hsame,MapKept.run_setObj_map _ hb',Result.andThen,ChangeMaps.setBlock,goInt,hn0]
 obtain⟨n,st,es1,clock1,hA,hB⟩:=hlay
 refine⟨n,st,es1,clock1,hA,hB,fun w2 m hw2=>?_⟩
 obtain⟨v0,st',es1',clock1',hE,hcase,hS⟩:=WideElems.entry_then_store K ht hz hb F hk
 rw[hA w rfl] at hE
 injection hE with e1 e2
 have e3:(ChangeMaps.setBlock w b (.map es1 clock1)).heap[b]?=(ChangeMaps.setBlock w b (.map es1' clock1')).heap[b]?:=by rw[e2]
 rw[ChangeMaps.heap_setBlock_same hb,ChangeMaps.heap_setBlock_same hb] at e3
 injection e3 with e3
 injection e3 with e3 e4
 subst e3 e4
 simp only[Value.tuple.injEq,Array.mk.injEq,List.cons.injEq,and_true,goInt,Value.int.injEq,true_and] at e1
 obtain⟨es',clock',hr2,hup⟩:=hS w2 (.int .i64 m) hw2
 refine⟨_,by rw[show (.int .i64 (st:Int):Value)=goInt st' by rw[goInt,e1.2]];exact hr2,Bw w2 b _,?_⟩
 obtain⟨w'',hr,hc⟩:=hput m
 rw[hup] at hr
 injection hr with _ hr
 subst hr
 exact hc.same (by rw[ChangeMaps.heap_setBlock_same hb,ChangeMaps.heap_setBlock_same hw2])
theorem Ce.look (h:Ce P w b k enc ks) (K:KeyLaw P k) (ht:P.underlying t=some (.map k e)) (hz:∀ u:World,(zeroValue e).run P u=.ok (.int .i64 0) u) (x:α) (hk:keyOf P k (enc x)=some lit):∃ n:Int,(Instr.lookup t (.map (some b)) (enc x) false).run P w=.ok (.int .i64 n) w:=by
 obtain⟨l,hM,hl,hv⟩:=h
 by_cases hin:∃ v,(enc x,v)∈l
 ·obtain⟨v,hin⟩:=hin
  obtain⟨n,hn⟩:=hv _ hin
  simp only at hn
  exact⟨n,by rw[(hM.hit (Maps.Keyed.of_law K) ht (hz w) hk hin).2,hn]⟩
 ·exact⟨0,(hM.miss (Maps.Keyed.of_law K) ht (hz w) hk (fun v hv=>hin ⟨v,hv⟩)).2⟩
end
theorem B5 {P:Program} {ops:Array Oper} {rest:List Oper} {o:Oper} {a:Act} {w w':World} {Q:Exit→Act→World→Prop} {t:TypeId} (hgd:o.guard=none) (m y x:Operand) (hop:o.op=.entryStore t m y x) {vm vy vx:Value} (hm:a.eval m=vm) (hy:a.eval y=vy) (hx:a.eval x=vx)
  (hr:(Instr.entryStore t vm vy vx).run P w=.ok () w') (h:wpList P ops Q rest (a.put o.dst undef) w'):wpList P ops Q (o::rest) a w:=by
 refine wpList_plain hgd fun K' hK'=>?_
 unfold Oper.wp
 simp[execOp,hop,hm,hy,hx,hr,Result.andThen]
 exact hK' _ _ h
end
structure Rq where
 kind:Int
 who:Int
 room:Int
 rights:Int
 track:Int
 layer:Int
 tid:Int
 ssrcs:List Nat
def Dt (x:Int) (m:Int):Bool:=decide (0≤x)&&decide (x<m)
def Rq.ok (q:Rq):Bool:=Dt q.kind 10&&Dt q.who 65536&&Dt q.room 256&&Dt q.rights 256&&Dt q.track 65536&&Dt q.layer 256&&Dt q.tid 256&&decide (q.ssrcs.length≤255)
def Rq.head (id:Nat) (q:Rq):List (Nat×Int) :=
 [(id,8),(q.kind.toNat,1),(q.who.toNat,2),(q.room.toNat,1),(q.rights.toNat,1),(q.track.toNat,2),(q.layer.toNat,1),(q.tid.toNat,1),(q.ssrcs.length,1)]
def CS (l:List Nat):List (Nat×Int):=l.map fun s=>(s,4)
def Rq.bytes (id:Nat) (q:Rq):List UInt8:=Ez (q.head id++CS q.ssrcs)
def Rq.put (id:Nat) (q:Rq):List UInt8:=if q.ok then q.bytes id else []
def Rq.err (q:Rq):Int:=if q.ok then 0 else 1
theorem ok_parts {q:Rq} (h:q.ok=true):(0≤q.kind∧q.kind≤9)∧(0≤q.who∧q.who<65536)∧(0≤q.room∧q.room<256)∧(0≤q.rights∧q.rights<256)∧(0≤q.track∧q.track<65536)∧(0≤q.layer∧q.layer<256)∧(0≤q.tid∧q.tid<256)∧q.ssrcs.length≤255:=by
 simp only[Rq.ok,Dt,Bool.and_eq_true,decide_eq_true_eq] at h
 omega
theorem ok_mk {q:Rq} (h:(0≤q.kind∧q.kind≤9)∧(0≤q.who∧q.who<65536)∧(0≤q.room∧q.room<256)∧(0≤q.rights∧q.rights<256)∧(0≤q.track∧q.track<65536)∧(0≤q.layer∧q.layer<256)∧(0≤q.tid∧q.tid<256)∧q.ssrcs.length≤255):q.ok=true:=by
 simp only[Rq.ok,Dt,Bool.and_eq_true,decide_eq_true_eq]
 omega
theorem tail_take (l:List Nat) (k:Nat) (h:k<l.length):CS (l.take (k+1))=CS (l.take k)++[(l[k],4)]:=by
 rw[CS,CS,List.take_succ_eq_append_getElem h,List.map_append];rfl
theorem D6 (l:List Nat):(CS l).length=l.length:=by simp[CS]
def stp (s:List UInt8×Int) (n:Int):List UInt8×Int:=((cut s.1 s.2 n (Ey n)).1,(cut s.1 s.2 n (Ey n)).2.1)
def nm (s:List UInt8×Int) (n:Int):Nat:=val (cut s.1 s.2 n (Ey n)).2.2
def Fw (s:List UInt8×Int):Nat→List UInt8×Int
 | 0=>s
 | k+1=>stp (Fw s k) 4
def q1 (l:List UInt8):=stp (l,0) 8
def q2 (l:List UInt8):=stp (q1 l) 1
def q3 (l:List UInt8):=stp (q2 l) 2
def q4 (l:List UInt8):=stp (q3 l) 1
def q5 (l:List UInt8):=stp (q4 l) 1
def q6 (l:List UInt8):=stp (q5 l) 2
def q7 (l:List UInt8):=stp (q6 l) 1
def q8 (l:List UInt8):=stp (q7 l) 1
def q9 (l:List UInt8):=stp (q8 l) 1
theorem B0 (s:List UInt8×Int) (n:Int):(stp s n).1.length≤s.1.length:=cut_left _ _ _ _
theorem Fz (s:List UInt8×Int) (n:Nat) (h:n≤8):nm s n<256 ^ n:=by
 unfold nm cut
 have h0:0<256 ^ n:=Nat.pow_pos (by omega)
 repeat' split
 all_goals simp only[val,List.foldl_nil]
 all_goals try exact h0
 rename_i h1 h2 h3
 have:=val_lt (s.1.take (n:Int).toNat)
 refine Nat.lt_of_lt_of_le this (Nat.pow_le_pow_right (by omega) ?_)
 simp;omega
def rq (l:List UInt8):Rq:={ kind:=nm (q1 l) 1,who:=nm (q2 l) 2,room:=nm (q3 l) 1,rights:=nm (q4 l) 1,track:=nm (q5 l) 2,layer:=nm (q6 l) 1,tid:=nm (q7 l) 1,ssrcs:=(List.range (nm (q8 l) 1)).map fun k=>nm (Fw (q9 l) k) 4 }
def Ip (l:List UInt8):List UInt8×Int:=Fw (q9 l) (nm (q8 l) 1)
def De (l:List UInt8):Int:=if (Ip l).2=0 then (if 9<(rq l).kind then 11 else if 0<(Ip l).1.length then 12 else 0) else (Ip l).2
def Rq.zero:Rq:=⟨0,0,0,0,0,0,0,[]⟩
def Eg (l:List UInt8):Nat:=if De l=0 then nm (l,0) 8 else 0
def CK (l:List UInt8):Rq:=if De l=0 then rq l else Rq.zero
end Go.Proofs.YtmcndlofaanjiaaGreat
