/- Texts of one claim, laid together: CtlL MidIn Que RowI -/
import Derived.Lib.SliceRun
import Derived.Test.YtmcndlofaanjiaaGreatJo05
import Derived.Test.YtmcndlofaanjiaaGreatJo03
import Derived.Test.YtmcndlofaanjiaaGreatJo04
/- control,and what it stands in,in plain Lean: slots,epochs,boards,requests that were seen,the whole. -/
namespace Go.Proofs.YtmcndlofaanjiaaGreat
open Go.RowKit
set_option linter.unusedVariables false
set_option maxRecDepth 100000
set_option maxHeartbeats 8000000
structure ASl (β:Type) where
 x:Option β
 turn:Nat
def ASl.zero {β:Type}:ASl β:=⟨none,0⟩
structure Rf where
 slot:Int
 turn:Nat
 deriving DecidableEq
def AN {β:Type}:List (ASl β)→Nat
 | []=>0
 | s::l=>if s.x.isNone then 0 else AN l+1
theorem arFree_le {β:Type} (l:List (ASl β)):AN l≤l.length:=by
 induction l with
 | nil=>exact Nat.le_refl _
 | cons s l ih=>simp only[AN,List.length_cons];split<;>omega
def Ed {β:Type} (l:List (ASl β)) (i:Nat):ASl β:=l.getD i ASl.zero
def AO {β:Type} (l:List (ASl β)) (d:β):List (ASl β)×Rf×Int :=
 if AN l<l.length then (l.set (AN l) ⟨some d,((Ed l (AN l)).turn+1)%4294967296⟩,⟨AN l,((Ed l (AN l)).turn+1)%4294967296⟩,0)
 else (l,⟨0,0⟩,20)
def It {β:Type} (l:List (ASl β)) (r:Rf):Bool:=decide (0≤r.slot)&&(decide (r.slot<l.length)&&((Ed l r.slot.toNat).x.isSome&&decide ((Ed l r.slot.toNat).turn=r.turn)))
def F4 {β:Type} (l:List (ASl β)) (r:Rf):Option β:=if It l r then (Ed l r.slot.toNat).x else none
def Ba {β:Type} (l:List (ASl β)):Nat:=(l.filter fun s=>s.x.isSome).length
structure Wk where
 at_:Nat
 sees:Nat
 looks:Bool
 deriving DecidableEq
structure Pn where
 l:List Wk
 waits:List (Rf×Nat)
def Wk.old (w:Wk) (x:Nat):Nat:=if w.looks then min (min x w.at_) w.sees else min x w.at_
def Pn.oldest (p:Pn):Nat:=p.l.foldl (fun x w=>w.old x) ((p.l.getD 0 ⟨0,0,false⟩).at_)
def Pn.wk (p:Pn) (i:Int):Wk:=p.l.getD i.toNat ⟨0,0,false⟩
def Pn.has (p:Pn) (i:Int):Bool:=decide (0≤i)&&decide (i<p.l.length)
def Pn.put (p:Pn) (i:Int) (w:Wk):Pn:=⟨p.l.set i.toNat w,p.waits⟩
def Pn.install (p:Pn) (i:Int) (e:Nat):Pn×Int :=
 if !p.has i then (p,1) else if e<(p.wk i).at_ then (p,23) else (p.put i ⟨e,(p.wk i).sees,(p.wk i).looks⟩,0)
def Pn.retire (p:Pn) (r:Rf) (e:Nat):Pn×Int:=if p.waits.length=64 then (p,20) else (⟨p.l,p.waits++[(r,e)]⟩,0)
structure Rt where
 ssrc:Nat
 track:Int
 from_:Int
 layer:Int
 shard:Int
 deriving DecidableEq
structure Dw where
 ssrc:Nat
 ref:Rf
 who:Int
 track:Int
 shard:Int
 from_:Int
 layer:Int
 tid:Int
 muted:Bool
 deriving DecidableEq
structure Tb where
 epoch:Nat
 routes:List Rt
 downs:List Dw
def tbE (t:Option Tb):Nat:=match t with | none=>0 | some t=>t.epoch
structure Bd where
 room:Nat
 q:List (List Tb)
 acks:List (Nat×Nat)
 last:List Nat
def Bd.hasRoom (b:Bd):Bool:=b.q.all fun l=>decide (l.length<b.room)
def Bd.send (b:Bd) (t:Tb):Bd:=if b.hasRoom then ⟨b.room,b.q.map (·++[t]),b.acks,b.last⟩ else b
def Bd.take (b:Bd) (i:Nat):Bd×Option Tb:=match (b.q.getD i []) with | []=>(b,none) | t::l=>(⟨b.room,b.q.set i l,b.acks,b.last⟩,some t)
def Bd.ack (b:Bd) (i:Nat) (e:Nat):Bd:=if b.acks.length<b.q.length*b.room then ⟨b.room,b.q,b.acks++[(i,e)],b.last⟩ else b
def Bd.collect (b:Bd):Bd:=match b.acks with | []=>b | (i,e)::l=>⟨b.room,b.q,l,b.last.set i e⟩
def Bd.acked (b:Bd):Nat:=match b.last with | []=>0 | x::l=>l.foldl min x
structure Dd where
 room:Nat
 l:List (Nat×Option (List UInt8))
def Dd.find (d:Dd) (id:Nat):Option (Option (List UInt8)):=(d.l.find? fun x=>decide (x.1=id)).map (·.2)
def Dd.start (d:Dd) (id:Nat):Dd×Int :=
 if (d.find id).isSome then (d,22)
 else if d.l.length=d.room then
  (match d.l with
   | []=>(d,20)
   | (_,none)::_=>(d,20)
   | _::l=>(⟨d.room,l++[(id,none)]⟩,0))
 else (⟨d.room,d.l++[(id,none)]⟩,0)
def Dd.end_ (d:Dd) (id:Nat) (b:List UInt8):Dd×Int :=
 match d.find id with
 | none=>(d,21)
 | some (some _)=>(d,23)
 | some none=>(⟨d.room,d.l.map fun x=>if x.1=id then (id,some b) else x⟩,0)
structure Cf where
 shards:Nat
 intake:Nat
 window:Nat
 keep:Nat
structure Wt where
 id:Nat
 epoch:Nat
 calls:List Int
structure C0 where
 who:Int
 track:Int
 ref:Rf
 ssrc:Nat
structure Ct (β:Type) where
 cf:Cf
 slots:List (ASl β)
 pins:Pn
 board:Bd
 calls:List (Int×List UInt8)
 seen:Dd
 s:DS
 t:Option Tb
 ever:Nat
 seats:List C0
 waits:List Wt
structure Rp where
 call:Int
 id:Nat
 e:Int
structure Dn1 where
 call:Int
 id:Nat
 req:Rq
 e:Int
def BR (l:List C0) (who track:Int):C0:=(l.find? fun x=>decide (x.who=who)&&decide (x.track=track)).getD ⟨who,track,⟨0,0⟩,0⟩
def Hm (l:List Trk) (id:Int):Int:=((l.find? fun t=>decide (t.id=id)).map (·.from_)).getD 0
section
variable {β:Type}
def Ct.call (c:Ct β) (n:Int) (b:List UInt8):Ct β×Bool:=if c.calls.length<c.cf.intake then ({ c with calls:=c.calls++[(n,b)] },true) else (c,false)
def Ct.routes (c:Ct β):List Rt:=c.s.tracks.flatMap fun t=>t.ssrcs.mapIdx fun k x=>⟨x,t.id,t.from_,k,t.id%c.cf.shards⟩
def Ct.downs (c:Ct β):List Dw:=c.s.subs.map fun x=>⟨(BR c.seats x.who x.track).ssrc,(BR c.seats x.who x.track).ref,x.who,x.track,x.track%c.cf.shards,Hm c.s.tracks x.track,x.layer,x.tid,x.muted⟩
def Ct.made (c:Ct β) (e:Nat):Tb:=⟨e,c.routes,c.downs⟩
def Ct.drop (c:Ct β) (e:Nat):List Sub→Ct β
 | []=>c
 | x::l=>({ c with pins:=(c.pins.retire (BR c.seats x.who x.track).ref e).1,seats:=c.seats.filter fun y=>!(decide (y.who=x.who)&&decide (y.track=x.track)) }:Ct β).drop e l
def Ct.done (c:Ct β) (s:DS) (q:Rq):Ct β×Nat×Int :=
 let gone:=c.s.gone s
 let c:={ c with s:=s }
 if q.kind=0 then (c,0,0)
 else
  let e:=tbE c.t+1
  let c:=c.drop e gone
  let t:=c.made e
  ({ c with t:=some t,board:=c.board.send t },e,0)
def Ct.do_ (mk:Nat→β) (c:Ct β) (q:Rq):Ct β×Nat×Int :=
 if !c.board.hasRoom then (c,0,20)
 else if (c.s.do_ q).2≠0 then (c,0,(c.s.do_ q).2)
 else if q.kind=5 then
  let r:=AO c.slots (mk (2147483648+c.ever))
  if r.2.2≠0 then (c,0,20)
  else ({ c with slots:=r.1,ever:=c.ever+1,seats:=c.seats++[⟨q.who,q.track,r.2.1,2147483648+c.ever⟩] }:Ct β).done (c.s.do_ q).1 q
 else c.done (c.s.do_ q).1 q
def Iw (id:Nat) (e:Int):List UInt8:=Ez [(id,8),(e.toNat,1)]
def toldE (b:List UInt8):Int:=if b.length=9 then ((b.getD 8 0).toNat:Int) else 0
def wt0:Wt:=⟨0,0,[]⟩
def Ct.waitOf (c:Ct β) (id:Nat):Nat:=(c.waits.takeWhile fun w=>decide (w.id≠id)).length
def Ct.again (c:Ct β) (n:Int) (id:Nat):Ct β×List Rp :=
 match c.seen.find id with
 | some (some b)=>(c,[⟨n,id,toldE b⟩])
 | _ =>
  if c.waitOf id<c.waits.length then
   (if 8<(c.waits.getD (c.waitOf id) wt0).calls.length then (c,[⟨n,id,20⟩])
    else ({ c with waits:=c.waits.set (c.waitOf id) ⟨(c.waits.getD (c.waitOf id) wt0).id,(c.waits.getD (c.waitOf id) wt0).epoch,(c.waits.getD (c.waitOf id) wt0).calls++[n]⟩ },[]))
  else (c,[⟨n,id,20⟩])
def Ct.answer (c:Ct β) (id:Nat) (e:Int) (calls:List Int):Ct β×List Rp :=
 ({ c with seen:=(c.seen.end_ id (Iw id e)).1 },calls.map fun n=>⟨n,id,e⟩)
def Ct.fresh (mk:Nat→β) (c:Ct β) (n:Int) (id:Nat) (q:Rq):Ct β×List Dn1×List Rp :=
 if (c.seen.start id).2≠0 then (c,[],[⟨n,id,20⟩])
 else
  let r:=({ c with seen:=(c.seen.start id).1 }:Ct β).do_ mk q
  if r.2.1=0 then ((r.1.answer id r.2.2 [n]).1,[⟨n,id,q,r.2.2⟩],(r.1.answer id r.2.2 [n]).2)
  else ({ r.1 with waits:=r.1.waits++[⟨id,r.2.1,[n]⟩] },[⟨n,id,q,r.2.2⟩],[])
def Ct.accept1 (mk:Nat→β) (c:Ct β) (n:Int) (b:List UInt8):Ct β×List Dn1×List Rp :=
 if De b≠0 then (c,[],[⟨n,0,De b⟩])
 else if (c.seen.find (Eg b)).isSome then ((c.again n (Eg b)).1,[],(c.again n (Eg b)).2)
 else c.fresh mk n (Eg b) (CK b)
def Ct.accept (mk:Nat→β) (c:Ct β):Ct β×List Dn1×List Rp :=
 match c.calls with
 | []=>(c,[],[])
 | (n,b)::l=>({ c with calls:=l }:Ct β).accept1 mk n b
def Ct.flush (c:Ct β) (acked:Nat):List Wt→Ct β×List Rp
 | []=>({ c with waits:=[] },[])
 | p::l=>if p.epoch≤acked then (((c.answer p.id 0 p.calls).1.flush acked l).1,(c.answer p.id 0 p.calls).2++((c.answer p.id 0 p.calls).1.flush acked l).2)
  else ({ c with waits:=p::l },[])
def Ct.collect (c:Ct β):Ct β×List Rp:=({ c with board:=c.board.collect }:Ct β).flush c.board.collect.acked c.waits
def Ct.obey (c:Ct β) (k:Nat):Ct β×Bool :=
 if c.board.q.length*c.board.room≤c.board.acks.length then (c,false)
 else match (c.board.take k).2 with
 | none=>(c,false)
 | some t =>
  if (c.pins.install k t.epoch).2≠0 then ({ c with board:=(c.board.take k).1,pins:=(c.pins.install k t.epoch).1 },false)
  else ({ c with board:=(c.board.take k).1.ack k t.epoch,pins:=(c.pins.install k t.epoch).1 },true)
end
theorem AZ (g:Nat) {T:TypeId} {fr:Nat×Nat} (post:List Value):∀ (vs pre old:List Value) (w:World),old.length=vs.length→w.heap[g]?=some (.cells (pre++(old++post)).toArray T fr)→(w.setCells g pre.length vs).heap[g]?=some (.cells (pre++(vs++post)).toArray T fr)
 | [],pre,old,w,hl,h=>by
  obtain rfl:=List.eq_nil_of_length_eq_zero hl
  exact h
 | v::vs,pre,[],w,hl,h=>by simp at hl
 | v::vs,pre,u::old,w,hl,h=>by
  have h1:=AG (i:=pre.length) v h
  have e:(pre++(u::old++post)).toArray.setIfInBounds pre.length v=((pre++[v])++(old++post)).toArray:=by simp
  rw[e] at h1
  have:=AZ g post vs (pre++[v]) old _ (by simpa using hl) h1
  simpa[World.setCells] using this
section
variable {P:Program} {ops:Array Oper} {rest:List Oper} {o:Oper} {a:Act} {w:World} {Q:Exit→Act→World→Prop}
theorem Gg {K:Act→World→Prop} (ty:TypeId) (x y:Operand) (ho:o.op=.store ty x y) {g:Nat} (pre:List Value) {cs old post:List Value} {T:TypeId} (hx:a.eval x=.pointer (some ⟨g,pre.length,none⟩)) (hy:a.eval y=.agg cs.toArray)
  (hi:(P.info? ty).map (·.size)=some cs.length) (h1:∀ v∈cs,v.oneCell'=true) (hg:w.heap[g]?=some (.cells (pre++(old++post)).toArray T (0,0))) (hl:old.length=cs.length)
  (h:∀ w',w'.heap[g]?=some (.cells (pre++(cs++post)).toArray T (0,0))→w.grownBy w' (some g)→K (a.put o.dst undef) w'):o.wp P a w K Q:=by
 have ht:w.there g pre.length cs.length:=fun j hj=>by
  rw[Ae hg,Ay hg]
  rw[List.getElem?_toArray,List.getElem?_append_right (by omega),Nat.add_sub_cancel_left,List.getElem?_append_left (by omega)]
  simp[hl,hj]
 refine wp_store_mid ty x y ho g pre.length cs.toArray hx hy (by simpa using ht) (by simpa using hi) (all_oneCell_toArray h1) (h _ ?_ ?_)
 ·have:=AZ g post cs pre old w hl hg
  simpa using this
 ·exact Bh g _ _ w
theorem Bc (hgd:o.guard=none) (ty:TypeId) (x y:Operand) (ho:o.op=.store ty x y) {g:Nat} (pre:List Value) {cs old post:List Value} {T:TypeId} (hx:a.eval x=.pointer (some ⟨g,pre.length,none⟩)) (hy:a.eval y=.agg cs.toArray)
  (hi:(P.info? ty).map (·.size)=some cs.length) (h1:∀ v∈cs,v.oneCell'=true) (hg:w.heap[g]?=some (.cells (pre++(old++post)).toArray T (0,0))) (hl:old.length=cs.length)
  (h:∀ w',w'.heap[g]?=some (.cells (pre++(cs++post)).toArray T (0,0))→w.grownBy w' (some g)→wpList P ops Q rest (a.put o.dst undef) w'):wpList P ops Q (o::rest) a w :=
 wpList_plain hgd fun _ hK=>Gg ty x y ho pre hx hy hi h1 hg hl fun w' h2 h3=>hK _ _ (h w' h2 h3)
theorem GL {g:Nat} {pre cs post:List Value} {T:TypeId} {fr:Nat×Nat} (hg:w.heap[g]?=some (.cells (pre++(cs++post)).toArray T fr)):w.rangeAt g pre.length cs:=fun j v hj=>by
 have hlt:j<cs.length:=(List.getElem?_eq_some_iff.1 hj).1
 rw[Ae hg,List.getElem?_toArray,List.getElem?_append_right (by omega),Nat.add_sub_cancel_left,List.getElem?_append_left hlt]
 exact hj
theorem Cb {K:Act→World→Prop} (ty:TypeId) (x:Operand) (ho:o.op=.load ty x) {g:Nat} (pre cs post:List Value) {T:TypeId} {fr:Nat×Nat} (d:TypeDesc) (hx:a.eval x=.pointer (some ⟨g,pre.length,none⟩))
  (hu:P.underlying ty=some d) (hd:d.isRow=true) (hi:(P.info? ty).map (·.size)=some cs.length) (hg:w.heap[g]?=some (.cells (pre++(cs++post)).toArray T fr))
  (h:K (a.put o.dst (.agg cs.toArray)) w):o.wp P a w K Q :=
 wp_load_mid ty x ho g pre.length hx cs d (GL hg) hu hd hi h
theorem CR (hgd:o.guard=none) (ty:TypeId) (x:Operand) (ho:o.op=.load ty x) {g:Nat} (pre cs post:List Value) {T:TypeId} {fr:Nat×Nat} (d:TypeDesc) (hx:a.eval x=.pointer (some ⟨g,pre.length,none⟩))
  (hu:P.underlying ty=some d) (hd:d.isRow=true) (hi:(P.info? ty).map (·.size)=some cs.length) (hg:w.heap[g]?=some (.cells (pre++(cs++post)).toArray T fr))
  (h:wpList P ops Q rest (a.put o.dst (.agg cs.toArray)) w):wpList P ops Q (o::rest) a w :=
 wpList_load_mid hgd ty x ho g pre.length hx cs d (GL hg) hu hd hi h
end
theorem Le.box1 {w W W':World} {g:Nat} (h:Le w W) (hg:W.grownBy W' (some g)) (hn:w.heap.size≤g):Le w W':=⟨h.out.grown hg h.size (by rintro k e;injection e with e;omega)⟩
theorem Fp.fresh {S:Nat→Prop} {w0 w w':World} {g:Nat} (h:Fp S w0 w) (hg:w.grownBy w' (some g)) (hge:w0.heap.size≤g):Fp S w0 w' :=
 ⟨hg.os.trans h.os,hg.tape.trans h.tape,hg.output.trans h.output,Nat.le_trans h.size hg.size,fun k hk hs=>(hg.block k (Nat.lt_of_lt_of_le hk h.size) (by intro e;injection e with e;omega)).trans (h.block k hk hs)⟩
structure QAt (TQ TE s:Nat) (w:World) (Q A R f:Nat) (vs:List (List Value)):Prop where
 hQ:w.heap[Q]?=some (.cells #[.slice (some ⟨A,0,none⟩) R R,.int .i64 f,.int .i64 vs.length] TQ (0,0))
 hA:∃ cur:List Value,w.heap[A]?=some (.cells cur.toArray TE (0,0))∧cur.length=R*s∧∀ i v,vs[i]?=some v→∀ j,j<s→cur[((f+i)%R)*s+j]?=v[j]?
 fR:f<R
 nR:vs.length≤R
 len:∀ v∈vs,v.length=s
 R1:R≤4096
 ne:A≠Q
def qS (Q A:Nat) (k:Nat):Prop:=k=Q∨k=A
section
variable {TQ TE s:Nat} {w w':World} {Q A R f:Nat} {vs:List (List Value)}
theorem QAt.fp {S:Nat→Prop} (h:QAt TQ TE s w Q A R f vs) (hf:Fp S w w') (h1:¬ S Q) (h2:¬ S A):QAt TQ TE s w' Q A R f vs:=by
 obtain⟨cur,hA,hl,hc⟩:=h.hA
 exact⟨hf.heap h.hQ h1,⟨cur,hf.heap hA h2,hl,hc⟩,h.fR,h.nR,h.len,h.R1,h.ne⟩
theorem QAt.le (h:QAt TQ TE s w Q A R f vs) (hl:Le w w'):QAt TQ TE s w' Q A R f vs:=h.fp (S:=fun _=>False) (Fp.of_le hl) (fun h=>h) (fun h=>h)
theorem QAt.c0 (h:QAt TQ TE s w Q A R f vs):w.cell? ⟨Q,0,none⟩=some (.slice (some ⟨A,0,none⟩) R R):=Ae h.hQ 0
theorem QAt.c2 (h:QAt TQ TE s w Q A R f vs):w.cell? ⟨Q,2,none⟩=some (.int .i64 vs.length):=Ae h.hQ 2
theorem CF {R s p:Nat} (h:p<R):p*s+s≤R*s:=by
 have:=Nat.mul_le_mul_right s (Nat.succ_le_of_lt h)
 rw[Nat.succ_mul] at this
 exact this
theorem QAt.row (h:QAt TQ TE s w Q A R f vs) (p:Nat) (hp:p<R):∃ pre old post:List Value,pre.length=p*s∧old.length=s∧w.heap[A]?=some (.cells (pre++old++post).toArray TE (0,0)):=by
 obtain⟨cur,hA,hl,_⟩:=h.hA
 have hle:=CF (s:=s) hp
 refine⟨cur.take (p*s),(cur.drop (p*s)).take s,(cur.drop (p*s)).drop s,?_,?_,?_⟩
 ·rw[List.length_take];omega
 ·rw[List.length_take,List.length_drop];omega
 ·rw[List.append_assoc,List.take_append_drop,List.take_append_drop];exact hA
theorem QAt.elem (h:QAt TQ TE s w Q A R f vs) {i:Nat} {v:List Value} (hi:vs[i]?=some v):w.rangeAt A (((f+i)%R)*s) v:=fun j u hj=>by
 obtain⟨cur,hA,hl,hc⟩:=h.hA
 have hv:=h.len v (List.mem_of_getElem? hi)
 have hjs:j<s:=by rw[← hv];exact (List.getElem?_eq_some_iff.1 hj).1
 rw[Ae hA,List.getElem?_toArray,hc i v hi j hjs,hj]
theorem QAt.first {v:List Value} (h:QAt TQ TE s w Q A R f (v::vs)):w.rangeAt A (f*s) v:=by
 have:=h.elem (i:=0) (v:=v) rfl
 rwa [Nat.add_zero,Nat.mod_eq_of_lt h.fR] at this
theorem mod_inj {f i j R:Nat} (hi:i<R) (hj:j<R) (h:(f+i)%R=(f+j)%R):i=j:=by
 have h1:=Nat.div_add_mod (f+i) R
 have h2:=Nat.div_add_mod (f+j) R
 rw[h] at h1
 rcases Nat.lt_trichotomy ((f+i) / R) ((f+j) / R) with hlt | heq | hgt
 ·have:=Nat.mul_le_mul_left R (Nat.succ_le_of_lt hlt)
  rw[Nat.mul_succ] at this
  omega
 ·rw[heq] at h1;omega
 ·have:=Nat.mul_le_mul_left R (Nat.succ_le_of_lt hgt)
  rw[Nat.mul_succ] at this
  omega
theorem Cl {p q s j:Nat} (hj:j<s) (h:p≠q):q*s+j<p*s∨p*s+s≤q*s+j:=by
 rcases Nat.lt_or_gt_of_ne h with h1 | h1
 ·have:=CF (s:=s) h1;omega
 ·have:=CF (s:=s) h1;omega
theorem CQ {pre old new post:List Value} {k:Nat} (hl:new.length=old.length) (h:k<pre.length∨pre.length+old.length≤k):(pre++new++post)[k]?=(pre++old++post)[k]?:=by
 rcases h with h | h
 ·rw[List.append_assoc,List.append_assoc,List.getElem?_append_left h,List.getElem?_append_left h]
 ·rw[List.getElem?_append_right (by simp;omega),List.getElem?_append_right (by simp;omega)]
  simp only[List.length_append,hl]
theorem QAt.push (h:QAt TQ TE s w Q A R f vs) (hn:vs.length<R) {v:List Value} (hv:v.length=s) {pre old post:List Value} (hpre:pre.length=((f+vs.length)%R)*s) (hold:old.length=s)
  (h0:w.heap[A]?=some (.cells (pre++old++post).toArray TE (0,0))) (hA:w'.heap[A]?=some (.cells (pre++v++post).toArray TE (0,0)))
  (hQ:w'.heap[Q]?=some (.cells #[.slice (some ⟨A,0,none⟩) R R,.int .i64 f,.int .i64 (vs.length+1:Nat)] TQ (0,0))):QAt TQ TE s w' Q A R f (vs++[v]):=by
 obtain⟨cur,hc0,hl,hc⟩:=h.hA
 rw[hc0] at h0
 injection h0 with h0
 injection h0 with h0
 have hcur:cur=pre++old++post:=by simpa using congrArg Array.toList h0
 refine⟨by rw[List.length_append];exact hQ,⟨pre++v++post,hA,?_,fun i u hu j hj=>?_⟩,h.fR,by rw[List.length_append];exact hn,fun u hu=>?_,h.R1,h.ne⟩
 ·rw[← hl,hcur];simp[hv,hold]
 ·rcases Nat.lt_or_ge i vs.length with hi | hi
  ·rw[List.getElem?_append_left hi] at hu
   rw[CQ (hv.trans hold.symm),← hcur,hc i u hu j hj]
   have hne:(f+vs.length)%R≠(f+i)%R:=fun e=>by have:=mod_inj hn (by have:=h.nR;omega) e;omega
   have:=Cl hj hne
   rw[hpre,hold]
   exact this
  ·have hi2:i=vs.length:=by
    have:=(List.getElem?_eq_some_iff.1 hu).1
    simp at this
    omega
   subst hi2
   rw[List.getElem?_append_right (Nat.le_refl _),Nat.sub_self] at hu
   injection hu with hu
   subst hu
   rw[List.append_assoc,List.getElem?_append_right (by omega),List.getElem?_append_left (by omega),hpre]
   congr 1
   omega
 ·rcases List.mem_append.1 hu with hu | hu
  ·exact h.len u hu
  ·rw[List.mem_singleton.1 hu];exact hv
theorem QAt.pop {v:List Value} (h:QAt TQ TE s w Q A R f (v::vs)) {z:List Value} (hz:z.length=s) {pre old post:List Value} (hpre:pre.length=f*s) (hold:old.length=s)
  (h0:w.heap[A]?=some (.cells (pre++old++post).toArray TE (0,0))) (hA:w'.heap[A]?=some (.cells (pre++z++post).toArray TE (0,0)))
  (hQ:w'.heap[Q]?=some (.cells #[.slice (some ⟨A,0,none⟩) R R,.int .i64 ((f+1)%R:Nat),.int .i64 vs.length] TQ (0,0))):QAt TQ TE s w' Q A R ((f+1)%R) vs:=by
 obtain⟨cur,hc0,hl,hc⟩:=h.hA
 rw[hc0] at h0
 injection h0 with h0
 injection h0 with h0
 have hcur:cur=pre++old++post:=by simpa using congrArg Array.toList h0
 have hfR:=h.fR
 have hnR:vs.length+1≤R:=by simpa using h.nR
 refine⟨hQ,⟨pre++z++post,hA,?_,fun i u hu j hj=>?_⟩,Nat.mod_lt _ (by omega),by omega,fun u hu=>h.len u (List.mem_cons_of_mem _ hu),h.R1,h.ne⟩
 ·rw[← hl,hcur];simp[hz,hold]
 ·have hi:i<vs.length:=(List.getElem?_eq_some_iff.1 hu).1
  have e:((f+1)%R+i)%R=(f+(i+1))%R:=by rw[Nat.mod_add_mod];congr 1;omega
  rw[e,CQ (hz.trans hold.symm),← hcur,hc (i+1) u (by simpa using hu) j hj]
  have hne:f≠(f+(i+1))%R:=fun e=>by
   have e2:(f+0)%R=(f+(i+1))%R:=by rw[Nat.add_zero,Nat.mod_eq_of_lt hfR];exact e
   have:=mod_inj (by omega) (by omega) e2
   omega
  have:=Cl hj hne
  rw[hpre,hold]
  exact this
end
def Cz (cur:List Value) (s:Nat) (xs:List (List Value)):Prop:=∀ (i:Nat) (v:List Value),xs[i]?=some v→∀ j,j<s→cur[i*s+j]?=v[j]?
theorem AJ {s:Nat}:∀ {xs:List (List Value)},(∀ v∈xs,v.length=s)→xs.flatten.length=xs.length*s
 | [],_=>by simp
 | v::xs,h=>by
  rw[List.flatten_cons,List.length_append,h v (List.mem_cons_self ..),AJ (fun u hu=>h u (List.mem_cons_of_mem _ hu)),List.length_cons,Nat.succ_mul]
  omega
theorem CG {s:Nat}:∀ {xs:List (List Value)},(∀ v∈xs,v.length=s)→Cz xs.flatten s xs
 | [],_,i,v,hi,_,_=>by simp at hi
 | u::xs,h,0,v,hi,j,hj=>by
  simp only[List.getElem?_cons_zero,Option.some.injEq] at hi
  subst hi
  rw[List.flatten_cons,Nat.zero_mul,Nat.zero_add,List.getElem?_append_left (by rw[h u (List.mem_cons_self ..)];exact hj)]
 | u::xs,h,i+1,v,hi,j,hj=>by
  rw[List.getElem?_cons_succ] at hi
  have hu:=h u (List.mem_cons_self ..)
  rw[List.flatten_cons,List.getElem?_append_right (by rw[hu,Nat.succ_mul];omega),hu]
  have:=CG (fun u hu=>h u (List.mem_cons_of_mem _ hu)) i v hi j hj
  rw[← this]
  congr 1
  rw[Nat.succ_mul];omega
theorem Cz.take {cur:List Value} {s:Nat} {xs:List (List Value)} (h:Cz cur s xs) (hl:∀ v∈xs,v.length=s) (hc:xs.length*s≤cur.length):cur.take (xs.length*s)=xs.flatten:=by
 have hf:=CG hl
 have hfl:=AJ hl
 refine List.ext_getElem? fun k=>?_
 rcases Nat.lt_or_ge k (xs.length*s) with hk | hk
 ·rw[List.getElem?_take,if_pos hk]
  rcases Nat.eq_zero_or_pos s with rfl | hs
  ·simp at hk
  ·have h1:k / s<xs.length:=Nat.div_lt_of_lt_mul (by rw[Nat.mul_comm];exact hk)
   have h2:k=k / s*s+k%s:=by rw[Nat.mul_comm];exact (Nat.div_add_mod k s).symm
   have e:=List.getElem?_eq_getElem h1
   rw[h2,h _ _ e _ (Nat.mod_lt _ hs),hf _ _ e _ (Nat.mod_lt _ hs)]
 ·rw[List.getElem?_eq_none (by rw[List.length_take];omega),List.getElem?_eq_none (by omega)]
theorem Cz.of_take {cur:List Value} {s:Nat} {xs:List (List Value)} (hl:∀ v∈xs,v.length=s) (h:cur.take (xs.length*s)=xs.flatten):Cz cur s xs:=fun i v hi j hj=>by
 have h1:=CG hl i v hi j hj
 have hlt:i<xs.length:=(List.getElem?_eq_some_iff.1 hi).1
 have:=CF (s:=s) hlt
 rw[← h1,← h,List.getElem?_take,if_pos (by omega)]
theorem Cz.set {pre old post:List Value} {s:Nat} {xs:List (List Value)} {p:Nat} {v:List Value} (h:Cz (pre++old++post) s xs) (hp:pre.length=p*s) (ho:old.length=s) (hv:v.length=s):Cz (pre++v++post) s (xs.set p v):=fun i u hi j hj=>by
 rw[List.getElem?_set] at hi
 split at hi
 ·next e =>
  subst e
  split at hi
  ·injection hi with hi
   subst hi
   rw[List.append_assoc,List.getElem?_append_right (by omega),List.getElem?_append_left (by omega),hp]
   congr 1
   omega
  ·cases hi
 ·next e =>
  rw[CQ (hv.trans ho.symm),h i u hi j hj]
  have:=Cl hj e
  rw[hp,ho]
  exact this
theorem Ec {cur:List Value} {s p n:Nat} (hl:cur.length=n*s) (hp:p<n):∃ pre old post:List Value,cur=pre++old++post∧pre.length=p*s∧old.length=s:=by
 have hle:=CF (s:=s) hp
 refine⟨cur.take (p*s),(cur.drop (p*s)).take s,(cur.drop (p*s)).drop s,?_,?_,?_⟩
 ·rw[List.append_assoc,List.take_append_drop,List.take_append_drop]
 ·rw[List.length_take];omega
 ·rw[List.length_take,List.length_drop];omega
structure C7 (cur:List Value) (s:Nat) (xs:List (List Value)) (del:List Value→Bool) (j:Nat):Prop where
 front:Cz cur s ((xs.take j).filter fun v=>!del v)
 back:∀ (t:Nat) (v:List Value),j≤t→xs[t]?=some v→∀ k,k<s→cur[t*s+k]?=v[k]?
theorem BU {α:Type} {l:List α} {j:Nat} {v:α} (h:l[j]?=some v):l.take (j+1)=l.take j++[v]:=by
 rw[List.take_add_one,h];rfl
theorem front_le (xs:List (List Value)) (del:List Value→Bool) (j:Nat):((xs.take j).filter fun v=>!del v).length≤j:=by
 have:=List.length_filter_le (fun v=>!del v) (xs.take j)
 have:=List.length_take_le j xs
 omega
theorem C7.skip {cur:List Value} {s:Nat} {xs:List (List Value)} {del:List Value→Bool} {j:Nat} {v:List Value} (h:C7 cur s xs del j) (hj:xs[j]?=some v) (hd:del v=true):C7 cur s xs del (j+1)∧((xs.take (j+1)).filter fun v=>!del v)=(xs.take j).filter fun v=>!del v:=by
 have e:((xs.take (j+1)).filter fun v=>!del v)=(xs.take j).filter fun v=>!del v:=by
  rw[BU hj,List.filter_append];simp[hd]
 exact⟨⟨by rw[e];exact h.front,fun t v ht=>h.back t v (by omega)⟩,e⟩
theorem C7.keep {pre old post:List Value} {s:Nat} {xs:List (List Value)} {del:List Value→Bool} {j:Nat} {v:List Value} (h:C7 (pre++old++post) s xs del j) (hj:xs[j]?=some v) (hd:del v=false) (hv:v.length=s)
  (hp:pre.length=((xs.take j).filter fun v=>!del v).length*s) (ho:old.length=s):C7 (pre++v++post) s xs del (j+1)∧((xs.take (j+1)).filter fun v=>!del v)=((xs.take j).filter fun v=>!del v)++[v]:=by
 have e:((xs.take (j+1)).filter fun v=>!del v)=((xs.take j).filter fun v=>!del v)++[v]:=by
  rw[BU hj,List.filter_append];simp[hd]
 refine⟨⟨?_,fun t u ht hu k hk=>?_⟩,e⟩
 ·rw[e]
  intro i u hi k hk
  rcases Nat.lt_or_ge i ((xs.take j).filter fun v=>!del v).length with hlt | hge
  ·rw[List.getElem?_append_left hlt] at hi
   rw[CQ (hv.trans ho.symm),h.front i u hi k hk]
   have:=Cl hk (Nat.ne_of_gt hlt)
   rw[hp,ho]
   exact this
  ·have hi2:i=((xs.take j).filter fun v=>!del v).length:=by
    have:=(List.getElem?_eq_some_iff.1 hi).1
    simp only[List.length_append,List.length_cons,List.length_nil] at this
    omega
   subst hi2
   rw[List.getElem?_append_right (Nat.le_refl _),Nat.sub_self] at hi
   injection hi with hi
   subst hi
   rw[List.append_assoc,List.getElem?_append_right (by omega),List.getElem?_append_left (by omega),hp]
   congr 1
   omega
 ·have hle:=front_le xs del j
  rw[CQ (hv.trans ho.symm),h.back t u (by omega) hu k hk]
  have:=Cl hk (show ((xs.take j).filter fun v=>!del v).length≠t by omega)
  rw[hp,ho]
  exact this
theorem C7.start {cur:List Value} {s:Nat} {xs:List (List Value)} {del:List Value→Bool} {i:Nat} {v:List Value} (h:Cz cur s xs) (hn:∀ u∈xs.take i,del u=false) (hi:xs[i]?=some v) (hd:del v=true):C7 cur s xs del (i+1)∧((xs.take (i+1)).filter fun v=>!del v)=xs.take i:=by
 have e:((xs.take (i+1)).filter fun v=>!del v)=xs.take i:=by
  rw[BU hi,List.filter_append]
  have:(xs.take i).filter (fun v=>!del v)=xs.take i:=List.filter_eq_self.2 fun u hu=>by simp[hn u hu]
  rw[this]
  simp[hd]
 refine⟨⟨by rw[e];exact fun k u hk=>h k u (by rw[List.getElem?_take] at hk;split at hk;exact hk;cases hk),fun t u _ hu=>h t u hu⟩,e⟩
theorem E4 {P:Program} (w:World) {t e ty:TypeId} {z:Value} {size bytes:Nat} (T:SlT P t e z size bytes) (h1:∀ u∈z.cells.toList,u.oneCell'=true) (g o n c:Nat) (cur:List Value) {e':TypeId} (hg:w.heap[g]?=some (.cells cur.toArray e' (0,0))) (hn:o+n*size≤cur.length) :
  (Builtin.clear_ #[t] ty #[.slice (some ⟨g,o,none⟩) n c]).run P w=.ok (.tuple #[]) (w.setRow g (cur.take o++(Builtin.zeroCells z.cells n).toList++cur.drop (o+n*size)).toArray):=by
 obtain⟨i,hi,hz,hsz,hby⟩:=info_parts T.info
 have hl:(Builtin.zeroCells z.cells n).toList.length=n*size:=by simp[Builtin.zeroCells,T.zs]
 have hm:∀ u∈(Builtin.zeroCells z.cells n).toList,u.oneCell'=true:=by
  intro u hu
  have:=T.pos
  simp only[Builtin.zeroCells,Array.toList_map,List.mem_map,Array.mem_toList_iff] at hu
  obtain⟨k,_,rfl⟩:=hu
  have hk:k%z.cells.size<z.cells.size:=Nat.mod_lt _ (by rw[T.zs];exact this)
  refine h1 _ ?_
  rw[getElem!_pos z.cells _ hk]
  exact Array.mem_toList_iff.2 (Array.getElem_mem hk)
 rcases n with _ | m
 ·have hz0:(Builtin.zeroCells z.cells 0).toList=[]:=List.eq_nil_of_length_eq_zero (by simpa using hl)
  rw[hz0,List.append_nil,Nat.zero_mul,Nat.add_zero,List.take_append_drop,setRow_self w g cur.toArray e' (0,0) hg]
  simp[Builtin.clear_,run_underlying T.under]
 ·have hst:=run_storeCells_at P g o e' (Builtin.zeroCells z.cells (m+1)).toList 0 cur.toArray w hg (by simpa[hl] using hn) hm
  rw[hl] at hst
  simp only[Nat.add_zero] at hst
  simp[Builtin.clear_,run_underlying T.under,zeroValue,typeInfo,hi,hz,hst]
theorem Cs {P:Program} {ops:Array Oper} {rest:List Oper} {o:Oper} {a:Act} {w:World} {Q:Exit→Act→World→Prop} (hgd:o.guard=none) {t e:TypeId} {z:Value} {size bytes:Nat} (T:SlT P t e z size bytes) (h1:∀ u∈z.cells.toList,u.oneCell'=true)
  (x:Operand) (ho:o.op=.call { callee:=.builtin .clear,args:=#[x],argTypes:=#[t] }) {g off n c:Nat} (hx:a.eval x=.slice (some ⟨g,off,none⟩) n c) {cur:List Value} {e':TypeId} (hg:w.heap[g]?=some (.cells cur.toArray e' (0,0))) (hn:off+n*size≤cur.length)
  (h:∀ (zs:List Value) (w':World),zs.length=n*size→w'.heap[g]?=some (.cells (cur.take off++zs++cur.drop (off+n*size)).toArray e' (0,0))→w.grownBy w' (some g)→wpList P ops Q rest (a.put o.dst (.tuple #[])) w'):wpList P ops Q (o::rest) a w:=by
 refine wpList_plain hgd fun K hK=>?_
 have hr:=E4 (P:=P) (ty:=o.type) w T h1 g off n c cur hg hn
 unfold Oper.wp execOp
 simp only[ho,resolve,invoke,builtin,Sem.run_bind,Sem.run_pure,Result.andThen_ok,List.map_toArray,List.map_cons,List.map_nil,hx]
 rw[hr]
 exact hK _ _ (h _ _ (by simp[Builtin.zeroCells,T.zs]) (setRow_heap w g cur.toArray _ e' (0,0) hg) ⟨rfl,rfl,rfl,by simp,fun k _ hk=>setRow_other w g k _ (fun e=>hk (by simp[e]))⟩)
theorem E9 {P:Program} (w:World) (dT sT ty elem:TypeId) (g o dLen dCap:Nat) (b off:Nat) (sLen sCap:Nat) (cur:List Value) (t:TypeId) (cs:List Value) (n size:Nat)
  (hu:P.underlying dT=some (.slice elem)) (hs:(P.info? elem).map (·.size)=some size) (hg:w.heap[g]?=some (.cells cur.toArray t (0,0))) (hn:n=Nat.min sLen dLen) (hcs:cs.length=n*size)
  (hsrc:w.rangeAt b off cs) (hfit:o+cs.length≤cur.length) (h1:∀ v∈cs,v.oneCell'=true) :
  (Builtin.copy_ #[dT,sT] ty #[.slice (some ⟨g,o,none⟩) dLen dCap,.slice (some ⟨b,off,none⟩) sLen sCap]).run P w =
   .ok (goInt n) (w.setRow g (cur.take o++cs++cur.drop (o+cs.length)).toArray):=by
 have hl:=run_loadCells_list (P:=P) w ⟨b,off,none⟩ cs (fun j v hj=>by
  have e:(⟨b,off,none⟩:Addr).add j=⟨b,off+j,none⟩:=by unfold Addr.add;split<;>simp_all
  rw[e];exact hsrc j v hj)
 have hst:=run_storeCells_at P g o t cs 0 cur.toArray w hg (by simpa using hfit) h1
 rw[hcs] at hl hst
 rw[hcs]
 simp only[Nat.add_zero] at hst
 cases hq:P.info? elem with
 | none=>simp[hq] at hs
 | some i =>
  have hi:i.size=size:=by simpa[hq] using hs
  simp[Builtin.copy_,run_underlying hu,Builtin.lenOf,Builtin.firstCells,sizeOf,typeInfo,hq,hi,← hn,hl,hst]
theorem Be {P:Program} {ops:Array Oper} {rest:List Oper} {o:Oper} {a:Act} {w:World} {Q:Exit→Act→World→Prop} (hgd:o.guard=none) (d s:Operand) (dT sT:TypeId)
  (ho:o.op=.call { callee:=.builtin .copy,args:=#[d,s],argTypes:=#[dT,sT] }) {elem:TypeId} {size:Nat} (hu:P.underlying dT=some (.slice elem)) (hs:(P.info? elem).map (·.size)=some size)
  {g off dLen dCap b o2 sLen sCap:Nat} (hd:a.eval d=.slice (some ⟨g,off,none⟩) dLen dCap) (hx:a.eval s=.slice (some ⟨b,o2,none⟩) sLen sCap) {cur:List Value} {t:TypeId} (hg:w.heap[g]?=some (.cells cur.toArray t (0,0))) {cs:List Value} {n:Nat} (hn:n=Nat.min sLen dLen) (hcs:cs.length=n*size)
  (hsrc:w.rangeAt b o2 cs) (hfit:off+cs.length≤cur.length) (h1:∀ v∈cs,v.oneCell'=true)
  (h:∀ w',w'.heap[g]?=some (.cells (cur.take off++cs++cur.drop (off+cs.length)).toArray t (0,0))→w.grownBy w' (some g)→wpList P ops Q rest (a.put o.dst (goInt n)) w'):wpList P ops Q (o::rest) a w:=by
 refine wpList_plain hgd fun K hK=>?_
 have hr:=E9 (P:=P) w dT sT o.type elem g off dLen dCap b o2 sLen sCap cur t cs n size hu hs hg hn hcs hsrc hfit h1
 unfold Oper.wp execOp
 simp only[ho,resolve,invoke,builtin,Sem.run_bind,Sem.run_pure,Result.andThen_ok,List.map_toArray,List.map_cons,List.map_nil,hd,hx]
 rw[hr]
 exact hK _ _ (h _ (setRow_heap w g cur.toArray _ t (0,0) hg) ⟨rfl,rfl,rfl,by simp,fun k _ hk=>setRow_other w g k _ (fun e=>hk (by simp[e]))⟩)
end Go.Proofs.YtmcndlofaanjiaaGreat
