/- Texts of one claim, laid together: Pin3 ObO Ded Ded3 -/
import Derived.ArgAppend
import Derived.Test.YtmcndlofaanjiaaGreatJo17
import Derived.Test.YtmcndlofaanjiaaGreatJo29
import Derived.Test.YtmcndlofaanjiaaGreatJo08
import Derived.Test.YtmcndlofaanjiaaGreatJo06
import Derived.Test.YtmcndlofaanjiaaGreatJo04
/- pins: Sweep. -/
namespace Go.Proofs.YtmcndlofaanjiaaGreat
open Go.RowKit
set_option linter.unusedVariables false
set_option maxRecDepth 100000
set_option maxHeartbeats 8000000
def rfC (r:Rf):List Value:=[.int .i64 r.slot,.int .u32 r.turn]
structure SwI (B:Nat) (bo bx old:Nat) (rs:List Rf) (W:World):Prop where
 hO:W.heap[bo]?=some (.cells #[.int .u64 old] 28 (0,0))
 hX:∃ ov,W.heap[bx]?=some (.cells #[ov] 197 (0,0))∧AA (fun k=>B≤k) W 135 2 ov (rs.map rfC)
 Bo:B≤bo
 Bx:B≤bx
section
variable {B bo bx old:Nat} {rs:List Rf} {W W':World}
end
structure OwO (M:Nat→Prop) (w:World) (T:TypeId) (s:Nat) (v:Value) (xs:List (List Value)):Prop where
 val:(∃ A,v=.slice A 0 0∧xs=[])∨∃ g off cap cur,v=.slice (some ⟨g,off*s,none⟩) xs.length cap∧w.heap[g]?=some (.cells (cur:List Value).toArray T (0,0))∧xs.length≤cap∧0<cap∧cap≤maxLen∧cur.length=(off+cap)*s ∧
  ∀ (i:Nat) (x:List Value),xs[i]?=some x→∀ j,j<s→cur[(off+i)*s+j]?=x[j]?
 blk:∀ A n cap,v=.slice (some A) n cap→0<cap→M A.block
 len:∀ x∈xs,x.length=s
def Value.rowB:Value→Option Nat
 | .slice (some a) _ (_+1)=>some a.block
 | _=>none
section
variable {M M':Nat→Prop} {w w':World} {T:TypeId} {s:Nat} {v:Value} {xs:List (List Value)}
theorem OwO.nil:OwO M w T s (.slice none 0 0) []:=⟨.inl ⟨none,rfl,rfl⟩,fun _ _ _ h=>by simp at h,by simp⟩
theorem OwO.fp {S:Nat→Prop} (h:OwO M w T s v xs) (hf:Fp S w w') (hs:∀ k,S k→¬ M k):OwO M w' T s v xs:=by
 refine⟨?_,h.blk,h.len⟩
 rcases h.val with h1 | ⟨g,off,cap,cur,hv,hg,r1,r2,r3⟩
 ·exact .inl h1
 ·exact .inr ⟨g,off,cap,cur,hv,hf.heap hg (fun e=>hs _ e (h.blk _ _ _ hv r2)),r1,r2,r3⟩
theorem OwO.le (h:OwO M w T s v xs) (hl:Le w w'):OwO M w' T s v xs:=h.fp (S:=fun _=>False) (Fp.of_le hl) (fun _ h=>h.elim)
theorem OwO.mono (h:OwO M w T s v xs) (hm:∀ k,k<w.heap.size→M k→M' k):OwO M' w T s v xs:=by
 refine⟨h.val,fun A n cap hv hc=>?_,h.len⟩
 rcases h.val with ⟨A',e,_⟩ | ⟨g,off,cap',cur,e,hg,r1,r2,r3⟩
 ·rw[hv] at e;injection e with _ _ e;omega
 ·have hM:=h.blk A n cap hv hc
  rw[hv] at e
  injection e with e
  injection e with e
  exact hm _ (by rw[e];exact Ah hg) hM
theorem OwO.of (h:AA M w T s v xs) (hp:0<s):OwO M w T s v xs:=by
 refine⟨?_,fun A n cap hv hc=>h.blk _ (by rw[hv];rfl),h.len⟩
 rcases h.val with ⟨rfl,rfl⟩ | ⟨g,cap,cur,hv,hM,hg,hc,hm,hs,hr⟩
 ·exact .inl ⟨none,rfl,rfl⟩
 ·rcases Nat.eq_zero_or_pos cap with h0 | h0
  ·subst h0
   obtain rfl:xs=[]:=List.eq_nil_of_length_eq_zero (by omega)
   exact .inl ⟨_,hv,rfl⟩
  ·exact .inr ⟨g,0,cap,cur.toList,by rw[hv];simp,by rw[Array.toArray_toList];exact hg,hc,h0,hm,by simpa using hs,fun i x hi j hj=>by rw[Nat.zero_add];exact hr i x hi j hj⟩
theorem OwO.other {b:Nat} {cs:Array Value} {T':TypeId} {fr:Nat×Nat} (h:OwO M w T s v xs) (hg:w.grownBy w' (some b)) (hb:w.heap[b]?=some (.cells cs T' fr)) (hn:T≠T'):OwO M w' T s v xs:=by
 refine⟨?_,h.blk,h.len⟩
 rcases h.val with h1 | ⟨g,off,cap,cur,hv,h1,r1,r2,r3⟩
 ·exact .inl h1
 ·exact .inr ⟨g,off,cap,cur,hv,Ai hg h1 (by intro e;injection e with e;exact AS h1 hb hn e.symm),r1,r2,r3⟩
theorem OwO.slice (h:OwO M w T s v xs):∃ A cap,v=.slice A xs.length cap:=by
 rcases h.val with ⟨A,rfl,rfl⟩ | ⟨g,off,cap,cur,hv,_⟩
 ·exact⟨A,0,rfl⟩
 ·exact⟨_,cap,hv⟩
theorem OwO.tail {g off cap:Nat} {cur:List Value} {x:List Value} (h:OwO M w T s v (x::xs)) (hv:v=.slice (some ⟨g,off*s,none⟩) (xs.length+1) (cap+1)) {v':Value} (h1:0<cap→v'=.slice (some ⟨g,(off+1)*s,none⟩) xs.length cap) (h0:cap=0→∃ A,v'=.slice A 0 0) (hp:0<s):OwO M w T s v' xs:=by
 have hM:M g:=h.blk _ _ _ hv (by omega)
 rcases h.val with ⟨_,_,e⟩ | ⟨g',off',cap',cur,e,hg,r1,r2,r3,r4,r5⟩
 ·cases e
 ·rw[hv] at e
  injection e with e1 e2 e3
  injection e1 with e1
  injection e1 with e1 e1'
  subst e1
  obtain rfl:off=off':=Nat.eq_of_mul_eq_mul_right hp e1'
  obtain rfl:cap'=cap+1:=e3.symm
  refine⟨?_,fun A n c hv' hc=>?_,fun y hy=>h.len y (List.mem_cons_of_mem _ hy)⟩
  ·rcases Nat.eq_zero_or_pos cap with hc | hc
   ·obtain⟨A,hA⟩:=h0 hc
    exact .inl ⟨A,hA,List.eq_nil_of_length_eq_zero (by simp at r1;omega)⟩
   ·refine .inr ⟨g,off+1,cap,cur,h1 hc,hg,by simpa using r1,hc,by omega,by rw[r4];congr 1;omega,fun i y hy j hj=>?_⟩
    have:=r5 (i+1) y (by simpa using hy) j hj
    rw[← this,show off+1+i=off+(i+1) by omega]
  ·rcases Nat.eq_zero_or_pos cap with hc0 | hc0
   ·obtain⟨A',hA⟩:=h0 hc0
    rw[hA] at hv'
    injection hv' with _ _ e
    omega
   ·rw[h1 hc0] at hv'
    injection hv' with e
    injection e with e
    rw[← e];exact hM
end
structure Gl (W0:World) (T:TypeId) (s:Nat) (v:Value) (xs:List (List Value)) (x:List Value) (v':Value) (W:World):Prop where
 own:OwO (fun k=>Value.rowB v=some k∨W0.heap.size≤k) W T s v' (xs++[x])
 gr:Gr (Value.rowB v) W0 W
section
variable {M:Nat→Prop} {W0 w w':World} {T:TypeId} {s:Nat} {v v':Value} {xs:List (List Value)} {x:List Value}
theorem Gl.le (h:Gl W0 T s v xs x v' w) (hl:Le w w'):Gl W0 T s v xs x v' w':=⟨h.own.le hl,h.gr.trans (Gr.of_le hl)⟩
theorem OwO.rowM (h:OwO M w T s v xs) {k:Nat} (hk:Value.rowB v=some k):M k:=by
 obtain⟨A,cap,hv⟩:=h.slice
 subst hv
 cases A with
 | none=>simp[Value.rowB] at hk
 | some a =>
  cases cap with
  | zero=>simp[Value.rowB] at hk
  | succ c =>
   simp only[Value.rowB,Option.some.injEq] at hk
   rw[← hk]
   exact h.blk a _ _ rfl (by omega)
theorem OwO.row_ne (h:OwO M w T s v xs) {T':TypeId} {k:Nat} {cs:Array Value} {fr:Nat×Nat} (hk:w.heap[k]?=some (.cells cs T' fr)) (hn:T≠T'):Value.rowB v≠some k:=fun e=>by
 rcases h.val with ⟨A,hv,_⟩ | ⟨g,off,cap,cur,hv,hg,r1,r2,r3⟩
 ·subst hv;simp[Value.rowB] at e
 ·subst hv
  obtain⟨c,rfl⟩:∃ c,cap=c+1:=⟨cap - 1,by omega⟩
  simp only[Value.rowB,Option.some.injEq] at e
  exact AS hg hk hn e
theorem OwO.row_lt (h:OwO M w T s v xs) {k:Nat} (hk:Value.rowB v=some k):k<w.heap.size:=by
 rcases h.val with ⟨A,hv,_⟩ | ⟨g,off,cap,cur,hv,hg,r1,r2,r3⟩
 ·subst hv;simp[Value.rowB] at hk
 ·subst hv
  obtain⟨c,rfl⟩:∃ c,cap=c+1:=⟨cap - 1,by omega⟩
  simp only[Value.rowB,Option.some.injEq] at hk
  rw[← hk];exact Ah hg
theorem Gl.ownO (h:Gl W0 T s v xs x v' w) (h0:OwO M W0 T s v xs):OwO (Gn M W0) w T s v' (xs++[x]) :=
 h.own.mono fun k _ hk=>hk.elim (fun e=>.inl (h0.rowM e)) .inr
theorem Gl.heap (h:Gl W0 T s v xs x v' w) (h0:OwO M W0 T s v xs) {k:Nat} {cs:Array Value} {T':TypeId} {fr:Nat×Nat} (hk:W0.heap[k]?=some (.cells cs T' fr)) (hn:T≠T'):w.heap[k]?=some (.cells cs T' fr):=h.gr.heap hk (h0.row_ne hk hn)
theorem Gl.fp (h:Gl W0 T s v xs x v' w) (h0:OwO M W0 T s v xs):Fp M W0 w :=
 ⟨h.gr.out.os,h.gr.out.tape,h.gr.out.output,h.gr.out.size,fun k hk hs=>h.gr.out.block k hk (fun e=>hs (h0.rowM e.symm))⟩
theorem OwO.of_own {base n:Nat} {ys:List (List Value)} (h:w.ownsRow base T s v n ys.flatten) (hn:ys.length=n) (hl:∀ y∈ys,y.length=s) (hp:0<s):OwO (fun k=>base≤k) w T s v ys:=by
 subst hn
 refine OwO.of (M:=fun k=>base≤k) ⟨⟨h.1,?_⟩,fun k hk=>(h.lt k hk).1,hl⟩ hp
 rcases h.2 with h1 | ⟨g,cap,cur,hv,hb,hg,r⟩
 ·exact .inl h1
 ·exact .inr ⟨g,cap,cur,hv,Nat.zero_le _,hg,r⟩
end
section
variable {P:Program} {M:Nat→Prop} {W0 w:World} {T t:TypeId} {z:Value} {s bytes:Nat} {v u:Value} {xs:List (List Value)} {x:List Value}
theorem run_appO (S:SlT P t T z s bytes) {ty:TypeId} (h:OwO M W0 T s v xs) (hle:Le W0 w) (hb:BsF (Value.rowB v) x T u w) (hx:x.length=s) (h1:∀ c∈x,c.oneCell'=true) (hn:xs.length≤1000000) (hby:bytes≤1000) :
  ∃ v' w',(Builtin.append_ #[t,t] ty #[v,u]).run P w=.ok v' w'∧Gl W0 T s v xs x v' w'∧Gr (Value.rowB v) w w':=by
 obtain⟨g,rfl,hne,hg⟩:=hb.out
 obtain⟨i,hi,hz,hsz,hbyt⟩:=info_parts S.info
 have hl:=h.le hle
 have hbytes:(xs.length+1)*bytes≤140737488355328:=by
  have:=Nat.mul_le_mul (show xs.length+1≤1000001 by omega) hby
  omega
 have hlen:∀ y∈xs++[x],y.length=s:=fun y hy=>by
  rcases List.mem_append.1 hy with hy | hy
  ·exact h.len y hy
  ·rw[List.mem_singleton.1 hy];exact hx
 have hnews:∀ (j:Nat) (u:Value),x[j]?=some u→w.cell? ((⟨g,0,none⟩:Addr).add j)=some u:=fun j u hj=>by rw[BG,Nat.zero_add,Ae hg];simpa using hj
 have hfl:(xs++[x]).flatten=xs.flatten++x:=by simp
 have hgo:∀ v' w',w'.ownsRow w.heap.size T s v' (xs.length+1) (xs.flatten++x)→w.grownBy w' none→Gl W0 T s v xs x v' w'∧Gr (Value.rowB v) w w':=fun v' w' ho hgb=>by
  have hG:Gr (Value.rowB v) w w':=⟨⟨hgb.os,hgb.tape,hgb.output,hgb.size,fun k hk _=>hgb.block k hk (by simp)⟩⟩
  refine⟨⟨?_,(Gr.of_le hle).trans hG⟩,hG⟩
  rw[← hfl] at ho
  exact (OwO.of_own ho (by simp) hlen S.pos).mono fun k _ hk=>.inr (Nat.le_trans hle.size hk)
 rcases hl.val with ⟨A,rfl,hxs⟩ | ⟨b,off,cap,cur,rfl,hbk,r1,r2,r3,r4,r5⟩
 ·subst hxs
  cases A with
  | some b =>
   obtain⟨v',w',hr,h2,h3⟩:=run_append_arg_grows (P:=P) w t ty T i z s bytes S.under hi hz hsz hbyt S.zs S.pos b 0 0 [] (by simp) (by simp) ⟨g,0,none⟩ 1 1 x (by rw[hx,Nat.one_mul]) hnews (by omega) (by simp[maxLen]) (by simpa using hbytes)
   obtain⟨h4,h5⟩:=hgo v' w' (by simpa using h2) h3
   exact⟨v',w',hr,h4,h5⟩
  | none =>
   obtain⟨v',w',hr,h2,h3,_⟩:=run_append_own (P:=P) w w.heap.size t ty T i z s bytes S.under hi hz hsz hbyt S.zs S.pos (.slice none 0 0) 0 [] (World.ownsRow_nil w _ T s) ⟨g,0,none⟩ 1 1 x (by rw[hx,Nat.one_mul]) hnews h1 (by simp[maxLen]) (by simpa using hbytes) (Nat.le_refl _)
   obtain⟨h4,h5⟩:=hgo v' w' (by simpa using h2) (by simpa[Value.ownBlock] using h3)
   exact⟨v',w',hr,h4,h5⟩
 ·by_cases hr:xs.length+1≤cap
  ·obtain⟨pre,old,post,hcur,hpre,hold⟩:=Ec (s:=s) (p:=off+xs.length) r4 (by omega)
   have e1:off*s+xs.length*i.size=pre.length:=by rw[hsz,hpre,Nat.add_mul]
   have hrun:=run_append_room_cells (P:=P) w t ty T i S.under hi b (off*s) xs.length cap ⟨g,0,none⟩ 1 1 x (by rw[hx,hsz,Nat.one_mul]) hnews h1 hr
    (fun j hj=>by rw[e1,Ae hbk,List.getElem?_toArray,List.getElem?_eq_getElem (by rw[hcur];simp;omega)];rfl) (fun j hj=>Ay hbk _)
   rw[e1] at hrun
   have hbk2:w.heap[b]?=some (.cells (pre++(old++post)).toArray T (0,0)):=by rw[← List.append_assoc,← hcur];exact hbk
   have hnew:=AZ b post x pre old w (hold.trans hx.symm) hbk2
   obtain⟨c,rfl⟩:∃ c,cap=c+1:=⟨cap - 1,by omega⟩
   have hG:Gr (Value.rowB (.slice (some ⟨b,off*s,none⟩) xs.length (c+1))) w (w.setCells b pre.length x):=⟨Bh b x pre.length w⟩
   refine⟨_,_,hrun,⟨⟨.inr ⟨b,off,c+1,pre++(x++post),by simp,hnew,by simpa using hr,r2,r3,?_,fun i y hy j hj=>?_⟩,fun A n cap' hv hc=>?_,hlen⟩,(Gr.of_le hle).trans hG⟩,hG⟩
   ·rw[← r4,hcur];simp only[List.length_append];omega
   ·rw[← List.append_assoc]
    rcases Nat.lt_or_ge i xs.length with hlt | hge
    ·rw[List.getElem?_append_left hlt] at hy
     rw[CQ (hx.trans hold.symm),← hcur,r5 i y hy j hj]
     have:=Cl hj (show off+xs.length≠off+i by omega)
     rw[hpre,hold]
     exact this
    ·have hi2:i=xs.length:=by
      have:=(List.getElem?_eq_some_iff.1 hy).1
      simp only[List.length_append,List.length_cons,List.length_nil] at this
      omega
     subst hi2
     rw[List.getElem?_append_right (Nat.le_refl _),Nat.sub_self] at hy
     injection hy with hy
     subst hy
     rw[List.append_assoc,List.getElem?_append_right (by omega),List.getElem?_append_left (by omega),hpre]
     congr 1
     omega
   ·injection hv with e
    injection e with e
    rw[← e]
    exact .inl rfl
  ·obtain⟨v',w',hrun,h2,h3⟩:=run_append_arg_grows (P:=P) w t ty T i z s bytes S.under hi hz hsz hbyt S.zs S.pos ⟨b,off*s,none⟩ xs.length cap xs.flatten (AJ h.len) (fun j u hj=>by
     rw[BG,Ae hbk,List.getElem?_toArray]
     have hjl:j<xs.length*s:=by rw[← AJ h.len];exact (List.getElem?_eq_some_iff.1 hj).1
     have h5:j / s<xs.length:=Nat.div_lt_of_lt_mul (by rw[Nat.mul_comm];exact hjl)
     have h6:j%s<s:=Nat.mod_lt _ S.pos
     have h7:j=j / s*s+j%s:=by rw[Nat.mul_comm];exact (Nat.div_add_mod j s).symm
     have e:=List.getElem?_eq_getElem h5
     have h8:=CG h.len _ _ e _ h6
     rw[← h7,hj] at h8
     have h9:=r5 _ _ e _ h6
     rw[← h8] at h9
     rw[← h9]
     congr 1
     rw[Nat.add_mul]
     omega) ⟨g,0,none⟩ 1 1 x (by rw[hx,Nat.one_mul]) hnews (by omega) (by simp only[maxLen];omega) hbytes
   obtain⟨h4,h5⟩:=hgo v' w' h2 h3
   exact⟨v',w',hrun,h4,h5⟩
theorem wp_appO {o:Oper} {a:Act} {K:Act→World→Prop} {Q:Exit→Act→World→Prop} (S:SlT P t T z s bytes) (i j:Operand) (ho:o.op=.call { callee:=.builtin .append,args:=#[i,j],argTypes:=#[t,t] })
  (h:OwO M W0 T s v xs) (hle:Le W0 w) (hi:a.eval i=v) (hj:a.eval j=u) (hb:BsF (Value.rowB v) x T u w) (hx:x.length=s) (h1:∀ c∈x,c.oneCell'=true) (hn:xs.length≤1000000) (hby:bytes≤1000)
  (hK:∀ v' w',Gl W0 T s v xs x v' w'→Gr (Value.rowB v) w w'→K (a.put o.dst v') w'):o.wp P a w K Q:=by
 obtain⟨v',w',hr,h2,h3⟩:=run_appO S (ty:=o.type) h hle hb hx h1 hn hby
 unfold Oper.wp execOp
 simp only[ho,resolve,invoke,builtin,Sem.run_bind,Sem.run_pure,Result.andThen_ok,List.map_toArray,List.map_cons,List.map_nil,hi,hj]
 rw[hr]
 exact hK _ _ h2 h3
theorem Fd {ops:Array Oper} {rest:List Oper} {o:Oper} {a:Act} {Q:Exit→Act→World→Prop} (hgd:o.guard=none) (S:SlT P t T z s bytes) (i j:Operand) (ho:o.op=.call { callee:=.builtin .append,args:=#[i,j],argTypes:=#[t,t] })
  (h:OwO M W0 T s v xs) (hle:Le W0 w) (hi:a.eval i=v) (hj:a.eval j=u) (hb:BsF (Value.rowB v) x T u w) (hx:x.length=s) (h1:∀ c∈x,c.oneCell'=true) (hn:xs.length≤1000000) (hby:bytes≤1000)
  (hK:∀ v' w',Gl W0 T s v xs x v' w'→Gr (Value.rowB v) w w'→wpList P ops Q rest (a.put o.dst v') w'):wpList P ops Q (o::rest) a w :=
 wpList_plain hgd fun _ hK'=>wp_appO S i j ho h hle hi hj hb hx h1 hn hby fun v' w' h2 h3=>hK' _ _ (hK v' w' h2 h3)
end
def enV (a:Option (List UInt8)):Value:=.agg #[.string (str (a.getD [])),.bool a.isSome]
def enC (x:Nat×Option (List UInt8)):Value×Value:=(.int .u64 x.1,enV x.2)
def idC (x:Nat×Option (List UInt8)):List Value:=[.int .u64 x.1]
structure DdB (M:Nat→Prop) (w:World) (d mp:Nat) (ov:Value) (dd:Dd):Prop where
 hd:w.heap[d]?=some (.cells #[.int .i64 dd.room,ov,.map (some mp)] 290 (0,0))
 hO:OwO M w 28 1 ov (dd.l.map idC)
 hM:Bz Tryz.prog w mp 28 (dd.l.map enC)
 Md:M d
 Mm:M mp
 r1:1≤dd.room
 rm:dd.room≤4096
 ln:dd.l.length≤dd.room
 ids:∀ x∈dd.l,x.1<18446744073709551616
def Iy (M:Nat→Prop) (w:World) (d:Nat) (dd:Dd):Prop:=∃ mp ov,DdB M w d mp ov dd
section
variable {M M':Nat→Prop} {w w':World} {d mp:Nat} {ov:Value} {dd:Dd}
theorem DdB.fp {S:Nat→Prop} (h:DdB M w d mp ov dd) (hf:Fp S w w') (hs:∀ k,S k→¬ M k):DdB M w' d mp ov dd :=
 ⟨hf.heap h.hd (fun e=>hs _ e h.Md),h.hO.fp hf hs,h.hM.fp hf (fun e=>hs _ e h.Mm),h.Md,h.Mm,h.r1,h.rm,h.ln,h.ids⟩
theorem DdB.le (h:DdB M w d mp ov dd) (hl:Le w w'):DdB M w' d mp ov dd:=h.fp (S:=fun _=>False) (Fp.of_le hl) (fun _ h=>h.elim)
theorem DdB.mono (h:DdB M w d mp ov dd) (hm:∀ k,k<w.heap.size→M k→M' k):DdB M' w d mp ov dd :=
 ⟨h.hd,h.hO.mono hm,h.hM,hm _ (Ah h.hd) h.Md,hm _ h.hM.lt h.Mm,h.r1,h.rm,h.ln,h.ids⟩
theorem DdB.c0 (h:DdB M w d mp ov dd):w.cell? ⟨d,0,none⟩=some (.int .i64 dd.room):=Ae h.hd 0
theorem DdB.c1 (h:DdB M w d mp ov dd):w.cell? ⟨d,1,none⟩=some ov:=Ae h.hd 1
theorem DdB.c2 (h:DdB M w d mp ov dd):w.cell? ⟨d,2,none⟩=some (.map (some mp)):=Ae h.hd 2
theorem Gf {k:Nat} (hk:k<18446744073709551616):keyOf Tryz.prog 28 (.int .u64 k)=some (.int .u64 k) :=
 Maps.keyOf_int_mk Tryz.underlying28 (by simp[Lit.wf,IntKind.min,IntKind.max,IntKind.signed,IntKind.bits];omega)
theorem CY:Maps.Keyed Tryz.prog 28:=Maps.int_keyed Tryz.underlying28
theorem EY (w:World):(zeroValue 286).run Tryz.prog w=.ok (enV none) w:=by kernel_rfl
theorem GZ {dd:Dd} {id:Nat} {a:Option (List UInt8)} (h:dd.find id=some a):(id,a)∈dd.l:=by
 obtain⟨x,hx,rfl⟩:=Option.map_eq_some_iff.1 h
 have h1:=List.mem_of_find?_eq_some hx
 have h2:=List.find?_some hx
 simp only[decide_eq_true_eq] at h2
 subst h2
 exact h1
theorem find_not {dd:Dd} {id:Nat} (h:dd.find id=none):∀ x∈dd.l,x.1≠id:=by
 intro x hx e
 have h1:=Option.map_eq_none_iff.1 h
 have:=List.find?_eq_none.1 h1 x hx
 simp[e] at this
theorem E2 {dd:Dd} {id:Nat} (h:dd.find id=none):∀ v,((.int .u64 (id:Int):Value),v)∉dd.l.map enC:=by
 intro v hv
 obtain⟨x,hx,e⟩:=List.mem_map.1 hv
 injection e with e _
 injection e with _ e
 exact find_not h x hx (by omega)
def ddV (dd:Dd) (id:Nat):Value:=enV ((dd.find id).getD none)
theorem DdB.look (h:DdB M w d mp ov dd) {id:Nat} (hid:id<18446744073709551616) :
  (Instr.lookup 288 (.map (some mp)) (.int .u64 id) true).run Tryz.prog w=.ok (.tuple #[ddV dd id,.bool (dd.find id).isSome]) w∧(Instr.lookup 288 (.map (some mp)) (.int .u64 id) false).run Tryz.prog w=.ok (ddV dd id) w:=by
 cases hf:dd.find id with
 | none =>
  rw[ddV,hf]
  exact h.hM.miss CY Tryz.underlying288 (EY w) (Gf hid) (E2 hf)
 | some a =>
  rw[ddV,hf]
  exact h.hM.hit CY Tryz.underlying288 (EY w) (Gf hid) (List.mem_map.2 ⟨_,GZ hf,rfl⟩)
theorem ddFind (h:DdB M w d mp ov dd) (id:Nat) (hid:id<18446744073709551616) :
  Calls Tryz.prog 57 #[.pointer (some ⟨d,0,none⟩),.int .u64 id] w (Ax w (.tuple #[.string (str (((dd.find id).getD none).getD [])),.bool ((dd.find id).getD none).isSome,.bool (dd.find id).isSome])):=by
 have c2:=h.c2
 have hlk:=(h.look hid).1
 rw[ddV] at hlk
 generalize (dd.find id).getD none=a at *
 generalize (dd.find id).isSome=is at *
 obtain⟨R,hR⟩:∃ R,R=Ax w (.tuple #[.string (str (a.getD [])),.bool a.isSome,.bool is]):=⟨_,rfl⟩
 rw[← hR]
 have HR:=Aa hR
 clear hR h
 rw[enV] at hlk
 generalize str (a.getD [])=S at *
 generalize a.isSome=dn at *
 go_enter Tryz.func57,Tryz.ntmps57
 go_upto_region 4 with (refine Ak rfl 286 (.tmp 7) (.tmp 18) rfl (cs:=[.string S,.bool dn]) (old:=[.string ByteArray.empty,.bool false]) rfl rfl (by kernel_rfl) (by simp[Value.oneCell']) (heap_alloc_new _ _) rfl ?_;intro w3 h3 hg3;have H3:=Aa h3;have HL3:=Aa (show Le w w3 from ((Le.refl w).alloc _).box1 hg3 (Nat.le_refl _));clear h3 hg3)
 clear c2 hlk
 have y0:w3.cell? ⟨w.heap.size,0,none⟩=some (.string S):=Ae H3.out 0
 have y1:w3.cell? ⟨w.heap.size,1,none⟩=some (.bool dn):=Ae H3.out 1
 generalize w.heap.size=gx at *
 go_quiet (fail)
 go_wp2_with fail
 go_ret3
 rw[HR.out]
 exact⟨rfl,(HL3.out.drewN _).out⟩
end
def DdNewP (w:World) (n:Nat) (e:Ending) (w':World):Prop :=
 ∃ d,e=.returned (.pointer (some ⟨d,0,none⟩))∧Iy (fun k=>w.heap.size≤k) w' d ⟨n,[]⟩∧Le w w'
theorem ddNew_any (w:World) (n:Nat) (h1:1≤n) (h2:n≤4096):Calls Tryz.prog 110 #[.int .i64 n] w (DdNewP w n):=by
 have i1:¬ (n:Int)<1:=by omega
 have i2:¬ 4096<(n:Int):=by omega
 have hmm:=@run_makeMap Tryz.prog
 obtain⟨R,hR⟩:∃ R,R=DdNewP w n:=⟨_,rfl⟩
 rw[← hR]
 have HR:=Aa hR
 clear hR
 go_enter Tryz.func110,Tryz.ntmps110
 go_wp2_with fail
 rw[HR.out]
 have hz:(w.alloc (.map #[] 0)).heap.size=w.heap.size+1:=by show (w.heap.push _).size=_;rw[Array.size_push]
 have hd:=heap_alloc_new (w.alloc (.map #[] 0)) (.cells #[.int .i64 n,.slice none 0 0,.map (some w.heap.size)] 290)
 rw[hz] at hd
 refine⟨w.heap.size+1,rfl,⟨w.heap.size,.slice none 0 0,⟨hd,OwO.nil,?_,by omega,Nat.le_refl _,h1,h2,by simp,fun x hx=>by simp at hx⟩⟩,((Le.refl w).alloc _).alloc _⟩
 exact (Bz.made Tryz.prog w 28).le ((Le.refl _).alloc _)
end Go.Proofs.YtmcndlofaanjiaaGreat
