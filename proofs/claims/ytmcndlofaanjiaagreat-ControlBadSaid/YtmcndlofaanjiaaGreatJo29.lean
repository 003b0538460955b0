/- Texts of one claim, laid together: CtV CtR DfW -/
import Derived.Test.YtmcndlofaanjiaaGreatJo27
import Derived.Test.YtmcndlofaanjiaaGreatJo20
import Derived.Test.YtmcndlofaanjiaaGreatJo28
import Derived.Test.YtmcndlofaanjiaaGreatJo08
/- control in plain Lean: all that holds of it in the laws' scenes. -/
namespace Go.Proofs.YtmcndlofaanjiaaGreat
open Go.RowKit
set_option linter.unusedVariables false
set_option maxRecDepth 100000
set_option maxHeartbeats 8000000
structure DQ {β:Type} (C:Ct β):Prop where
 sh:C.board.q.length=C.cf.shards
 pl:C.pins.l.length=C.cf.shards
 ll:C.board.last.length=C.cf.shards
 ep:∀ l∈C.board.q,∀ t∈l,t.epoch≤tbE C.t
section
variable {β:Type} {C C':Ct β}
theorem DQ.same (h:DQ C) (h1:C'.cf=C.cf) (h2:C'.board=C.board) (h3:C'.pins.l=C.pins.l) (h4:C'.t=C.t):DQ C' :=
 ⟨by rw[h1,h2];exact h.sh,by rw[h1,h3];exact h.pl,by rw[h1,h2];exact h.ll,by rw[h2,h4];exact h.ep⟩
theorem retire_l (p:Pn) (r:Rf) (e:Nat):(p.retire r e).1.l=p.l:=by
 unfold Pn.retire
 split<;>rfl
theorem drop_pl (e:Nat):∀ (l:List Sub) (C:Ct β),(C.drop e l).pins.l=C.pins.l
 | [],C=>rfl
 | x::l,C=>by rw[Ct.drop,drop_pl e l];exact retire_l _ _ _
theorem DQ.done (h:DQ C) (s:DS) (q:Rq):DQ (C.done s q).1:=by
 unfold Ct.done
 dsimp only
 split
 ·exact h.same rfl rfl rfl rfl
 ·have e1:=drop_pl (tbE C.t+1) (C.s.gone s) ({ C with s:=s }:Ct β)
  have e2:=DB (tbE C.t+1) (C.s.gone s) ({ C with s:=s }:Ct β)
  generalize Ct.drop ({ C with s:=s }:Ct β) (tbE C.t+1) (C.s.gone s)=D at e1 e2 ⊢
  have hb:D.board=C.board:=by rw[e2]
  have hc:D.cf.shards=C.cf.shards:=by rw[e2]
  have hs:(D.board.send (D.made (tbE C.t+1))).q.length=C.board.q.length∧(D.board.send (D.made (tbE C.t+1))).last=C.board.last∧∀ l∈(D.board.send (D.made (tbE C.t+1))).q,∀ t∈l,t.epoch≤tbE C.t+1:=by
   rw[hb]
   unfold Bd.send
   split
   ·refine⟨List.length_map ..,rfl,fun l hl t ht=>?_⟩
    obtain⟨m,hm,rfl⟩:=List.mem_map.1 hl
    rcases List.mem_append.1 ht with ht | ht
    ·have:=h.ep m hm t ht;omega
    ·rw[List.mem_singleton.1 ht];exact Nat.le_refl _
   ·exact⟨rfl,rfl,fun l hl t ht=>by have:=h.ep l hl t ht;omega⟩
  refine⟨hs.1.trans (h.sh.trans hc.symm),?_,(congrArg _ hs.2.1).trans (h.ll.trans hc.symm),hs.2.2⟩
  show D.pins.l.length=D.cf.shards
  rw[e1,hc]
  exact h.pl
theorem DQ.do_ (h:DQ C) (mk:Nat→β) (q:Rq):DQ (C.do_ mk q).1:=by
 unfold Ct.do_
 split
 ·exact h
 split
 ·exact h
 split
 ·dsimp only
  split
  ·exact h
  ·refine DQ.done ?_ _ _
   exact h.same rfl rfl rfl rfl
 ·exact h.done _ _
theorem DQ.call (h:DQ C) (k:Int) (b:List UInt8):DQ (C.call k b).1:=by
 unfold Ct.call
 split
 ·exact h.same rfl rfl rfl rfl
 ·exact h
theorem DQ.accept (h:DQ C) (mk:Nat→β):DQ (C.accept mk).1:=by
 unfold Ct.accept
 split
 ·exact h
 ·next k b l hc =>
  have h1:DQ ({ C with calls:=l }:Ct β):=h.same rfl rfl rfl rfl
  unfold Ct.accept1
  split
  ·exact h1
  ·split
   ·rw[CH]
    exact h1.same rfl rfl rfl rfl
   ·unfold Ct.fresh
    split
    ·exact h1
    ·have h2:=(show DQ ({ C with calls:=l,seen:=(C.seen.start (Eg b)).1 }:Ct β) from h.same rfl rfl rfl rfl).do_ mk (CK b)
     dsimp only
     split
     ·exact h2.same rfl rfl rfl rfl
     ·exact h2.same rfl rfl rfl rfl
theorem F6 (b:Bd):b.collect.q=b.q∧b.collect.last.length=b.last.length∧b.collect.room=b.room:=by
 unfold Bd.collect
 split
 ·exact⟨rfl,rfl,rfl⟩
 ·exact⟨rfl,List.length_set ..,rfl⟩
theorem DQ.collect (h:DQ C):DQ C.collect.1:=by
 have e:=Cc C.board.collect.acked C.waits { C with board:=C.board.collect }
 rw[show (Ct.flush { C with board:=C.board.collect } C.board.collect.acked C.waits).1=C.collect.1 from rfl] at e
 rw[e]
 obtain⟨a1,a2,_⟩:=F6 C.board
 exact⟨(congrArg _ a1).trans h.sh,h.pl,a2.trans h.ll,fun l hl=>h.ep l (by rw[← a1];exact hl)⟩
theorem take_q (b:Bd) (k:Nat):(b.take k).1.q.length=b.q.length∧(b.take k).1.last=b.last∧(b.take k).1.acks=b.acks∧(b.take k).1.room=b.room∧∀ l∈(b.take k).1.q,∀ t∈l,∃ m∈b.q,t∈m:=by
 unfold Bd.take
 split
 ·exact⟨rfl,rfl,rfl,rfl,fun l hl t ht=>⟨l,hl,ht⟩⟩
 ·next t0 l0 he =>
  refine⟨List.length_set ..,rfl,rfl,rfl,fun l hl t ht=>?_⟩
  rcases B4 hl with rfl | hl
  ·have hk:k<b.q.length:=by
    rcases Nat.lt_or_ge k b.q.length with hk | hk
    ·exact hk
    ·rw[List.getD_eq_getElem?_getD,List.getElem?_eq_none hk] at he;cases he
   rw[List.getD_eq_getElem?_getD,List.getElem?_eq_getElem hk] at he
   have he:b.q[k]=t0::l:=he
   exact⟨b.q[k],List.getElem_mem hk,by rw[he];exact List.mem_cons_of_mem _ ht⟩
  ·exact⟨l,hl,ht⟩
theorem take_mem {b:Bd} {k:Nat} {t:Tb} (h:(b.take k).2=some t):∃ l∈b.q,t∈l:=by
 unfold Bd.take at h
 split at h
 ·cases h
 ·next t0 l0 he =>
  injection h with h
  subst h
  have hk:k<b.q.length:=by
   rcases Nat.lt_or_ge k b.q.length with hk | hk
   ·exact hk
   ·rw[List.getD_eq_getElem?_getD,List.getElem?_eq_none hk] at he;cases he
  rw[List.getD_eq_getElem?_getD,List.getElem?_eq_getElem hk] at he
  have he:b.q[k]=t0::l0:=he
  exact⟨b.q[k],List.getElem_mem hk,by rw[he];exact List.mem_cons_self ..⟩
theorem install_l (p:Pn) (i:Int) (e:Nat):(p.install i e).1.l.length=p.l.length:=by
 unfold Pn.install
 split
 ·rfl
 ·split
  ·rfl
  ·exact List.length_set ..
theorem ack_q (b:Bd) (k e:Nat):(b.ack k e).q=b.q∧(b.ack k e).last=b.last:=by
 unfold Bd.ack
 split<;>exact⟨rfl,rfl⟩
theorem DQ.obey (h:DQ C) (k:Nat):DQ (C.obey k).1:=by
 unfold Ct.obey
 split
 ·exact h
 ·split
  ·exact h
  ·next t ht =>
   obtain⟨a1,a2,a3,a4,a5⟩:=take_q C.board k
   have b1:=install_l C.pins k t.epoch
   split
   ·refine⟨a1.trans h.sh,b1.trans h.pl,(congrArg _ a2).trans h.ll,fun l hl t ht=>?_⟩
    obtain⟨m,hm,hm2⟩:=a5 l hl t ht
    exact h.ep m hm t hm2
   ·obtain⟨c1,c2⟩:=ack_q (C.board.take k).1 k t.epoch
    refine⟨(congrArg _ c1).trans (a1.trans h.sh),b1.trans h.pl,(congrArg _ (c2.trans a2)).trans h.ll,fun l hl t ht=>?_⟩
    obtain⟨m,hm,hm2⟩:=a5 l (by rw[← c1];exact hl) t ht
    exact h.ep m hm t hm2
end
theorem prId_lt9 (b:List UInt8):Eg b<18446744073709551616:=by
 unfold Eg
 split
 ·exact Fz (b,0) 8 (by omega)
 ·decide
structure Inv (C:Ct (Nat×Nat)) (n:Nat):Prop where
 ok:BP C n
 se:Co C.seen C.waits
 nw:C.waits.length≤n
 cl:∀ x∈C.calls,x.2.length≤1000
 bd:DQ C
 cq:C.calls.length≤C.cf.intake
section
variable {C C':Ct (Nat×Nat)} {n:Nat}
theorem GD {β:Type} (c:Ct β) (k:Int) (id:Nat):(c.again k id).1.waits.length=c.waits.length:=by
 unfold Ct.again
 split
 ·rfl
 ·split
  ·split
   ·rfl
   ·exact List.length_set ..
  ·rfl
theorem CO {β:Type} (a:Nat):∀ (l:List Wt) (c:Ct β),(c.flush a l).1.waits.length≤l.length
 | [],c=>Nat.le_refl _
 | p::l,c=>by
  unfold Ct.flush
  split
  ·exact Nat.le_trans (CO a l _) (Nat.le_succ _)
  ·exact Nat.le_refl _
theorem DG {β:Type} (mk:Nat→β) (c:Ct β):(c.accept mk).1.calls=c.calls.tail∧(c.accept mk).1.cf=c.cf:=by
 unfold Ct.accept
 split
 ·next h=>rw[h];exact⟨rfl,rfl⟩
 ·next k b l h =>
  rw[h]
  unfold Ct.accept1
  split
  ·exact⟨rfl,rfl⟩
  ·split
   ·rw[CH];exact⟨rfl,rfl⟩
   ·unfold Ct.fresh
    split
    ·exact⟨rfl,rfl⟩
    ·obtain⟨_,_,a3,a4⟩:=Fc mk ({ c with calls:=l,seen:=(c.seen.start (Eg b)).1 }:Ct β) (CK b)
     dsimp only
     split
     ·exact⟨a3,a4⟩
     ·exact⟨a3,a4⟩
theorem FX {β:Type} (mk:Nat→β) (c:Ct β):(c.accept mk).1.waits.length≤c.waits.length+1:=by
 unfold Ct.accept
 split
 ·exact Nat.le_succ _
 ·next k b l h =>
  unfold Ct.accept1
  split
  ·exact Nat.le_succ _
  ·split
   ·exact Nat.le_trans (Nat.le_of_eq (GD _ _ _)) (Nat.le_succ _)
   ·unfold Ct.fresh
    split
    ·exact Nat.le_succ _
    ·obtain⟨_,a2,_⟩:=Fc mk ({ c with calls:=l,seen:=(c.seen.start (Eg b)).1 }:Ct β) (CK b)
     dsimp only
     split
     ·exact Nat.le_trans (Nat.le_of_eq (congrArg List.length a2)) (Nat.le_succ _)
     ·show List.length (_++_)≤_
      rw[a2,List.length_append]
      exact Nat.le_refl _
theorem Inv.call (h:Inv C n) (k:Int) {b:List UInt8} (hb:b.length≤1000):Inv (C.call k b).1 n:=by
 have h1:=h.ok.call k b
 have h2:=h.bd.call k b
 unfold Ct.call at h1 h2 ⊢
 split
 ·next hc =>
  rw[if_pos hc] at h1 h2
  refine⟨h1,h.se,h.nw,fun x hx=>?_,h2,?_⟩
  ·rcases List.mem_append.1 hx with hx | hx
   ·exact h.cl x hx
   ·rw[List.mem_singleton.1 hx];exact hb
  ·show (C.calls++_).length≤C.cf.intake
   rw[List.length_append]
   exact hc
 ·exact h
theorem Inv.accept (h:Inv C n) (p:Nat):Inv (C.accept (fun s=>(p,s))).1 (n+1):=by
 obtain⟨a1,a2⟩:=DG (fun s=>(p,s)) C
 refine⟨h.ok.accept p,Co.accept h.se _ prId_lt9,Nat.le_trans (FX _ C) (Nat.succ_le_succ h.nw),fun x hx=>?_,h.bd.accept _,?_⟩
 ·rw[a1] at hx
  exact h.cl x (List.mem_of_mem_tail hx)
 ·rw[a1,a2,List.length_tail]
  have:=h.cq
  omega
theorem DO (C:Ct (Nat×Nat)):C.collect.1.calls=C.calls∧C.collect.1.cf=C.cf∧C.collect.1.s=C.s∧C.collect.1.t=C.t∧C.collect.1.slots=C.slots∧C.collect.1.pins=C.pins∧C.collect.1.seats=C.seats:=by
 have e:=Cc C.board.collect.acked C.waits { C with board:=C.board.collect }
 rw[show (Ct.flush { C with board:=C.board.collect } C.board.collect.acked C.waits).1=C.collect.1 from rfl] at e
 rw[e]
 exact⟨rfl,rfl,rfl,rfl,rfl,rfl,rfl⟩
theorem Inv.collect (h:Inv C n):Inv C.collect.1 n:=by
 obtain⟨a1,a2,_⟩:=DO C
 exact⟨h.ok.collect,h.se.collect,Nat.le_trans (CO _ _ _) h.nw,by rw[a1];exact h.cl,h.bd.collect,by rw[a1,a2];exact h.cq⟩
theorem FZ {β:Type} (C:Ct β) (k:Nat):(C.obey k).1={ C with board:=(C.obey k).1.board,pins:=(C.obey k).1.pins }:=by
 unfold Ct.obey
 split
 ·rfl
 ·split
  ·rfl
  ·split<;>rfl
theorem Inv.obey (h:Inv C n) (k:Nat):Inv (C.obey k).1 n:=by
 have h1:=h.ok.obey k
 have h2:=h.bd.obey k
 rw[FZ] at h1 h2 ⊢
 exact⟨h1,h.se,h.nw,h.cl,h2,h.cq⟩
end
section
variable {β:Type} (mk:Nat→β) (C:Ct β)
theorem FJ (s:DS) (q:Rq):(C.done s q).1.board.room=C.board.room:=by
 unfold Ct.done
 dsimp only
 split
 ·rfl
 ·have e2:=DB (tbE C.t+1) (C.s.gone s) ({ C with s:=s }:Ct β)
  generalize Ct.drop ({ C with s:=s }:Ct β) (tbE C.t+1) (C.s.gone s)=D at e2 ⊢
  have hb:D.board=C.board:=by rw[e2]
  show (D.board.send _).room=_
  rw[hb]
  unfold Bd.send
  split<;>rfl
theorem do_rm (q:Rq):(C.do_ mk q).1.board.room=C.board.room:=by
 unfold Ct.do_
 split
 ·rfl
 split
 ·rfl
 split
 ·dsimp only
  split
  ·rfl
  ·rw[FJ]
 ·rw[FJ]
theorem Gh:(C.accept mk).1.board.room=C.board.room:=by
 unfold Ct.accept
 split
 ·rfl
 ·next k b l h =>
  unfold Ct.accept1
  split
  ·rfl
  ·split
   ·rw[CH]
   ·unfold Ct.fresh
    split
    ·rfl
    ·have h1:=do_rm mk ({ C with calls:=l,seen:=(C.seen.start (Eg b)).1 }:Ct β) (CK b)
     dsimp only
     split
     ·exact h1
     ·exact h1
theorem obey_room (k:Nat):(C.obey k).1.board.room=C.board.room:=by
 unfold Ct.obey
 split
 ·rfl
 ·split
  ·rfl
  ·next t ht =>
   have h1:=(take_q C.board k).2.2.2.1
   split
   ·exact h1
   ·show ((C.board.take k).1.ack k t.epoch).room=_
    unfold Bd.ack
    split
    ·exact h1
    ·exact h1
theorem obey_cf (k:Nat):(C.obey k).1.cf=C.cf∧(C.obey k).1.calls=C.calls∧(C.obey k).1.s=C.s∧(C.obey k).1.t=C.t:=by
 rw[FZ]
 exact⟨rfl,rfl,rfl,rfl⟩
theorem call_cf (k:Int) (b:List UInt8):(C.call k b).1.cf=C.cf∧(C.call k b).1.board=C.board:=by
 unfold Ct.call
 split<;>exact⟨rfl,rfl⟩
theorem Hl {k:Int} {b:List UInt8} (h:C.calls=[]) (hi:1≤C.cf.intake):C.call k b=({ C with calls:=[(k,b)] },true):=by
 rw[Ct.call,h,if_pos (show ([]:List (Int×List UInt8)).length<C.cf.intake from hi)]
 rfl
end
theorem F0 (C:Ct (Nat×Nat)):C.collect.1.board.room=C.board.room:=by
 have e:=Cc C.board.collect.acked C.waits { C with board:=C.board.collect }
 rw[show (Ct.flush { C with board:=C.board.collect } C.board.collect.acked C.waits).1=C.collect.1 from rfl] at e
 rw[e]
 exact (F6 C.board).2.2
structure Ex (C:Ct (Nat×Nat)) (cf:Cf) (room:Nat):Prop where
 cf:C.cf=cf
 rm:C.board.room=room
 calls:C.calls=[]
theorem Ex.step {C:Ct (Nat×Nat)} {cf:Cf} {room:Nat} (h:Ex C cf room) (hi:1≤cf.intake) (k:Int) (b:List UInt8) (p:Nat):Ex ((C.call k b).1.accept (fun s=>(p,s))).1 cf room:=by
 obtain⟨a1,a2⟩:=DG (fun s=>(p,s)) (C.call k b).1
 refine⟨a2.trans ((call_cf C k b).1.trans h.cf),(Gh _ _).trans ((congrArg Bd.room (call_cf C k b).2).trans h.rm),?_⟩
 rw[a1,Hl C h.calls (by rw[h.cf];exact hi)]
 rfl
theorem Ex.obey {C:Ct (Nat×Nat)} {cf:Cf} {room:Nat} (h:Ex C cf room) (k:Nat):Ex (C.obey k).1 cf room:=⟨(obey_cf C k).1.trans h.cf,(obey_room C k).trans h.rm,(obey_cf C k).2.1.trans h.calls⟩
theorem Ex.collect {C:Ct (Nat×Nat)} {cf:Cf} {room:Nat} (h:Ex C cf room):Ex C.collect.1 cf room:=by
 obtain⟨a1,a2,_⟩:=DO C
 exact⟨a2.trans h.cf,(F0 C).trans h.rm,a1.trans h.calls⟩
end Go.Proofs.YtmcndlofaanjiaaGreat
