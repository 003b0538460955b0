/- Texts of one claim, laid together: CtK -/
import Derived.Test.YtmcndlofaanjiaaGreatJo25
/- control in plain Lean: what stays so of delta's state,of slots and seats. -/
namespace Go.Proofs.YtmcndlofaanjiaaGreat
open Go.RowKit
set_option linter.unusedVariables false
set_option maxRecDepth 100000
set_option maxHeartbeats 8000000
theorem FY {α:Type} {R:α→α→Prop} {l:List α} {i:Nat} {x:α} (h:l.Pairwise R) (hx:∀ y∈l,R x y∧R y x):(l.set i x).Pairwise R:=by
 rw[List.pairwise_iff_getElem] at h ⊢
 intro a b ha hb hab
 have ha':=ha
 have hb':=hb
 rw[List.length_set] at ha' hb'
 rw[List.getElem_set,List.getElem_set]
 split
 ·split
  ·omega
  ·exact (hx _ (List.getElem_mem _)).1
 ·split
  ·exact (hx _ (List.getElem_mem _)).2
  ·exact h a b ha' hb' hab
inductive TrkTo (l:List Trk):List Trk→Prop
 | same:TrkTo l l
 | cut (p:Trk→Bool):TrkTo l (l.filter p)
 | ins (i:Nat) (t:Trk) (h0:t.from_=0) (ha:∀ u∈l,∀ x∈u.ssrcs,x∉t.ssrcs):TrkTo l (AV l i t)
 | set (i:Nat) (t u:Trk) (hu:u∈l) (h0:t.from_=u.from_+1) (ha:∀ u∈l,∀ x∈u.ssrcs,x∉t.ssrcs):TrkTo l (l.set i t)
theorem GP {s:DS} {l:List Nat} (h:¬ s.taken l=true):∀ t∈s.tracks,∀ x∈t.ssrcs,x∉l:=by
 intro t ht x hx hm
 exact h (List.any_eq_true.2 ⟨t,ht,List.any_eq_true.2 ⟨x,hx,by simpa using hm⟩⟩)
theorem DS.do_tracks {s:DS} (h:s.Ok) (q:Rq):TrkTo s.tracks (s.do_ q).1.tracks:=by
 unfold DS.do_
 split
 ·exact .same
 split
 ·exact .same
 unfold DS.call
 split
 ·unfold DS.join
  repeat' split
  all_goals exact .same
 split
 ·exact .cut _
 split
 ·unfold DS.publish
  split
  ·exact .same
  split
  ·exact .same
  split
  ·exact .same
  next ht =>
  split
  ·exact .same
  ·exact .ins _ _ rfl (GP fun e=>ht (by rw[e,Bool.or_true]))
 split
 ·unfold DS.unpublish
  split
  ·exact .same
  ·exact .cut _
 split
 ·unfold DS.replace
  split
  ·exact .same
  next ho =>
  split
  ·exact .same
  split
  ·exact .same
  next ht =>
  have h1:=EK h (DS.ownE_ok ho).1
  refine .set _ _ (s.trk q.track) ?_ rfl (GP ht)
  rw[DS.trk,List.getD_eq_getElem?_getD,List.getElem?_eq_getElem h1.1]
  exact List.getElem_mem _
 split
 ·unfold DS.subscribe
  repeat' split
  all_goals exact .same
 split
 ·unfold DS.unsubscribe
  split<;>exact .same
 split
 ·unfold DS.mutes
  repeat' split
  all_goals exact .same
 split
 ·unfold DS.mutes
  repeat' split
  all_goals exact .same
 unfold DS.selects
 repeat' split
 all_goals exact .same
structure DS.Fit (s:DS) (n:Nat):Prop where
 ok:s.Ok
 ap:s.tracks.Pairwise fun a b=>∀ x∈a.ssrcs,x∉b.ssrcs
 fr:∀ t∈s.tracks,t.from_≤n
theorem DS.Fit.le {s:DS} {n m:Nat} (h:s.Fit n) (hn:n≤m):s.Fit m:=⟨h.ok,h.ap,fun t ht=>by have:=h.fr t ht;omega⟩
theorem DS.do_fit {s:DS} {n:Nat} (h:s.Fit n) (q:Rq):(s.do_ q).1.Fit (n+1):=by
 have ok:=DS.do_ok h.ok q
 have ht:=DS.do_tracks h.ok q
 have h1:=h.ap
 have h2:=h.fr
 generalize s.tracks=l at ht h1 h2
 refine⟨ok,?_,?_⟩
 ·generalize (s.do_ q).1.tracks=m at ht
  cases ht with
  | same=>exact h1
  | cut p=>exact h1.filter _
  | ins i t h0 ha=>exact B3 h1 (fun j hj _=>ha _ (List.getElem_mem _)) (fun j hj _ x hx hm=>ha _ (List.getElem_mem _) x hm hx)
  | set i t u hu h0 ha=>exact FY h1 fun y hy=>⟨fun x hx hm=>ha y hy x hm hx,ha y hy⟩
 ·generalize (s.do_ q).1.tracks=m at ht
  cases ht with
  | same=>exact fun t ht=>by have:=h2 t ht;omega
  | cut p=>exact fun t ht=>by have:=h2 t (List.mem_filter.1 ht).1;omega
  | ins i t h0 ha =>
   intro y hy
   rcases Bm.1 hy with rfl | hy
   ·omega
   ·have:=h2 y hy;omega
  | set i t u hu h0 ha =>
   intro y hy
   rcases B4 hy with rfl | hy
   ·have:=h2 u hu;omega
   ·have:=h2 y hy;omega
def DS.sz (s:DS):Int×Int×Int×Int:=(s.mp,s.mt,s.ms,s.ml)
theorem DS.do_sz {s:DS} (q:Rq):(s.do_ q).1.sz=s.sz:=by
 unfold DS.do_
 split
 ·rfl
 split
 ·rfl
 unfold DS.call
 split
 ·unfold DS.join
  repeat' split
  all_goals rfl
 split
 ·rfl
 split
 ·unfold DS.publish
  repeat' split
  all_goals rfl
 split
 ·unfold DS.unpublish
  repeat' split
  all_goals rfl
 split
 ·unfold DS.replace
  repeat' split
  all_goals rfl
 split
 ·unfold DS.subscribe
  repeat' split
  all_goals rfl
 split
 ·unfold DS.unsubscribe
  repeat' split
  all_goals rfl
 split
 ·unfold DS.mutes
  repeat' split
  all_goals rfl
 split
 ·unfold DS.mutes
  repeat' split
  all_goals rfl
 unfold DS.selects
 repeat' split
 all_goals rfl
theorem DS.do_size {s:DS} (q:Rq):(s.do_ q).1.mp=s.mp∧(s.do_ q).1.mt=s.mt∧(s.do_ q).1.ms=s.ms∧(s.do_ q).1.ml=s.ml:=by
 have h:=DS.do_sz (s:=s) q
 injection h with h1 h
 injection h with h2 h
 injection h with h3 h4
 exact⟨h1,h2,h3,h4⟩
theorem DS.do_few {s:DS} (h:s.Few) (q:Rq):(s.do_ q).1.Few:=by
 obtain⟨h1,h2,h3,h4⟩:=DS.do_size (s:=s) q
 exact⟨by rw[h1];exact h.mp,by rw[h2];exact h.mt,by rw[h4];exact h.ml⟩
theorem DS.do_subs {s:DS} (h:s.Ok) (q:Rq):∀ x∈(s.do_ q).1.subs,s.hasS x.who x.track=true∨(q.kind=5∧x.who=q.who∧x.track=q.track):=by
 have hs:∀ x∈s.subs,s.hasS x.who x.track=true∨(q.kind=5∧x.who=q.who∧x.track=q.track):=fun x hx=>.inl (BL.2 ⟨x,hx,rfl,rfl⟩)
 have hset:∀ y:Sub,s.hasS q.who q.track=true→y.who=(s.sub q.who q.track).who→y.track=(s.sub q.who q.track).track→∀ x∈s.subs.set (s.sAt q.who q.track) y,s.hasS x.who x.track=true∨(q.kind=5∧x.who=q.who∧x.track=q.track):=by
  intro y hh e1 e2 x hx
  rcases B4 hx with rfl | hx
  ·obtain⟨_,a,b⟩:=D9 h hh
   rw[e1,e2,a,b]
   exact .inl hh
  ·exact hs x hx
 unfold DS.do_
 split
 ·exact hs
 split
 ·exact hs
 unfold DS.call
 split
 ·unfold DS.join
  repeat' split
  all_goals exact hs
 split
 ·intro x hx
  exact hs x (List.mem_filter.1 (List.mem_filter.1 (show x∈(s.subs.filter fun x=>decide (x.who≠q.who)).filter _ from hx)).1).1
 split
 ·unfold DS.publish
  repeat' split
  all_goals exact hs
 split
 ·unfold DS.unpublish
  split
  ·exact hs
  ·intro x hx
   exact hs x (List.mem_filter.1 (show x∈s.subs.filter _ from hx)).1
 split
 ·unfold DS.replace
  repeat' split
  all_goals exact hs
 split
 ·next hk =>
  unfold DS.subscribe
  repeat' split
  all_goals first
   | exact hs
   | (intro x hx;rcases Bm.1 hx with rfl | hx;exact .inr ⟨hk,rfl,rfl⟩;exact hs x hx)
 split
 ·unfold DS.unsubscribe
  split
  ·exact hs
  ·intro x hx
   exact hs x (List.mem_of_mem_eraseIdx (show x∈s.subs.eraseIdx _ from hx))
 split
 ·unfold DS.mutes
  split
  ·exact hs
  next hh =>
  split
  ·exact hs
  ·exact hset _ (DD (by simpa using hh)) rfl rfl
 split
 ·unfold DS.mutes
  split
  ·exact hs
  next hh =>
  split
  ·exact hs
  ·exact hset _ (DD (by simpa using hh)) rfl rfl
 unfold DS.selects
 split
 ·exact hs
 next hh =>
 split
 ·exact hs
 ·exact hset _ (DD (by simpa using hh)) rfl rfl
theorem DS.do_five {s:DS} {q:Rq} (hk:q.kind=5) (h0:(s.do_ q).2=0):s.hasS q.who q.track=false∧(s.do_ q).1.subs=AV s.subs (s.sAt q.who q.track) ⟨q.who,q.track,q.layer,q.tid,false⟩:=by
 by_cases hp:s.hasP q.who=false
 ·rw[DS.do_,if_neg (by rw[hk];decide),if_pos ⟨by omega,hp⟩] at h0
  cases h0
 have e:s.do_ q=s.subscribe q:=by
  rw[DS.do_,if_neg (by rw[hk];decide),if_neg (fun h=>hp h.2),DS.call,hk]
  rfl
 rw[e] at h0 ⊢
 unfold DS.subscribe at h0 ⊢
 split at h0
 ·cases h0
 next h1 =>
 rw[if_neg h1]
 split at h0
 ·cases h0
 next h2 =>
 rw[if_neg h2]
 split at h0
 ·cases h0
 next h3 =>
 rw[if_neg h3]
 split at h0
 ·cases h0
 next h4 =>
 rw[if_neg h4]
 split at h0
 ·cases h0
 next h5 =>
 rw[if_neg h5]
 split at h0
 ·cases h0
 next h6 =>
 rw[if_neg h6]
 split at h0
 ·cases h0
 next h7 =>
 rw[if_neg h7]
 exact⟨by simpa using h4,rfl⟩
theorem DS.gone_mem {a b:DS} {x:Sub}:x∈a.gone b↔x∈a.subs∧b.hasS x.who x.track=false:=by
 rw[DS.gone,List.mem_filter]
 simp
theorem E3 {s:DS} (h:s.Ok):(s.subs.map fun x=>(x.who,x.track)).Nodup:=by
 rw[List.Nodup,List.pairwise_map]
 refine h.subs.imp fun {a b} hab e=>?_
 injection e with e1 e2
 rw[← e1,← e2,Sub.lt_irr] at hab
 cases hab
theorem EV {seats:List C0} (hp:(seats.map fun y=>(y.who,y.track)).Nodup) {y:C0} (hy:y∈seats):∃ l1 l2,seats=l1++y::l2∧(seats.filter fun z=>!(decide (z.who=y.who)&&decide (z.track=y.track)))=l1++l2:=by
 obtain⟨l1,l2,rfl⟩:=List.append_of_mem hy
 refine⟨l1,l2,rfl,?_⟩
 rw[List.map_append,List.map_cons,List.nodup_append] at hp
 obtain⟨h1,h2,h3⟩:=hp
 have h4:=(List.nodup_cons.1 h2).1
 rw[List.filter_append,List.filter_cons]
 have a1:(l1.filter fun z=>!(decide (z.who=y.who)&&decide (z.track=y.track)))=l1:=List.filter_eq_self.2 fun z hz=>by
  have:=h3 _ (List.mem_map_of_mem hz) _ (List.mem_cons_self ..)
  by_cases a:z.who=y.who<;>by_cases b:z.track=y.track<;>simp[a,b] at this ⊢
 have a2:(l2.filter fun z=>!(decide (z.who=y.who)&&decide (z.track=y.track)))=l2:=List.filter_eq_self.2 fun z hz=>by
  have:(z.who,z.track)≠(y.who,y.track):=fun e=>h4 (by rw[← e];exact List.mem_map_of_mem (f:=fun y:C0=>(y.who,y.track)) hz)
  by_cases a:z.who=y.who<;>by_cases b:z.track=y.track<;>simp[a,b] at this ⊢
 rw[a1,a2]
 simp
section
variable {β:Type}
theorem GQ (e:Nat):∀ (l m:List Sub) (C:Ct β),C.drop e (l++m)=(C.drop e l).drop e m
 | [],m,C=>rfl
 | x::l,m,C=>by rw[List.cons_append,Ct.drop,Ct.drop,GQ e l m]
theorem DB (e:Nat):∀ (l:List Sub) (C:Ct β),C.drop e l={ C with pins:=(C.drop e l).pins,seats:=(C.drop e l).seats }
 | [],C=>rfl
 | x::l,C=>by
  have:=DB e l ({ C with pins:=(C.pins.retire (BR C.seats x.who x.track).ref e).1,seats:=C.seats.filter fun y=>!(decide (y.who=x.who)&&decide (y.track=x.track)) })
  rw[Ct.drop]
  rw[this]
def IA (l:List Sub) (y:C0):Bool:=l.any fun x=>decide (y.who=x.who)&&decide (y.track=x.track)
theorem Dy (e:Nat):∀ (l:List Sub) (C:Ct β),(C.drop e l).seats=C.seats.filter fun y=>!IA l y
 | [],C=>by
  rw[Ct.drop]
  exact (List.filter_eq_self.2 fun _ _=>rfl).symm
 | x::l,C=>by
  rw[Ct.drop,Dy e l,List.filter_filter]
  congr 1
  funext y
  simp only[IA,List.any_cons,Bool.not_or]
  rw[Bool.and_comm]
end
structure Gb (slots:List (ASl (Nat×Nat))) (seats:List C0) (ws:List (Rf×Nat)):Prop where
 live:∀ y∈seats,∃ p,F4 slots y.ref=some (p,y.ssrc)
 old:∀ x∈ws,It slots x.1=true
 ra:(seats.map (·.ref.slot)++ws.map (·.1.slot)).Nodup
 turn:∀ s∈slots,s.turn<4294967296
 n64:slots.length≤64
 all:Ba slots=seats.length+ws.length
theorem Fh {β:Type} {l:List (ASl β)} {r:Rf} {x:β} (h:F4 l r=some x):It l r=true:=by
 rw[F4] at h
 split at h
 ·assumption
 ·cases h
theorem Fa {β:Type} {l:List (ASl β)} {r:Rf} (h:It l r=true):0≤r.slot∧r.slot<l.length∧∃ s,l[r.slot.toNat]?=some s∧s.x.isSome=true∧s.turn=r.turn:=by
 simp only[It,Bool.and_eq_true,decide_eq_true_eq] at h
 obtain⟨h1,h2,h3,h4⟩:=h
 have hlt:r.slot.toNat<l.length:=by omega
 refine⟨h1,h2,l[r.slot.toNat],List.getElem?_eq_getElem hlt,?_,?_⟩
 ·rw[Ed,List.getD_eq_getElem?_getD,List.getElem?_eq_getElem hlt] at h3;exact h3
 ·rw[Ed,List.getD_eq_getElem?_getD,List.getElem?_eq_getElem hlt] at h4;exact h4
theorem Hg {β:Type} {l:List (ASl β)} {i j:Nat} (x:ASl β) (h:i≠j):Ed (l.set i x) j=Ed l j:=by
 rw[Ed,Ed,List.getD_eq_getElem?_getD,List.getD_eq_getElem?_getD,List.getElem?_set_ne h]
theorem Hi {β:Type} {l:List (ASl β)} {i:Nat} (x:ASl β) {r:Rf} (h:i≠r.slot.toNat):It (l.set i x) r=It l r:=by
 rw[It,It,List.length_set,Hg x h]
theorem arGet_set {β:Type} {l:List (ASl β)} {i:Nat} (x:ASl β) {r:Rf} (h:i≠r.slot.toNat):F4 (l.set i x) r=F4 l r:=by
 rw[F4,F4,Hi x h,Hg x h]
section
variable {slots:List (ASl (Nat×Nat))} {seats:List C0} {ws:List (Rf×Nat)}
theorem Gb.nw (h:Gb slots seats ws):seats.length+ws.length≤64:=by
 have:=F7 slots
 have:=h.all
 have:=h.n64
 omega
theorem Gb.retire {y:C0} {l1 l2:List C0} (h:Gb slots (l1++y::l2) ws) (e:Nat):Gb slots (l1++l2) (ws++[(y.ref,e)]):=by
 refine⟨fun z hz=>h.live z ?_,fun x hx=>?_,?_,h.turn,h.n64,?_⟩
 ·rcases List.mem_append.1 hz with hz | hz
  ·exact List.mem_append_left _ hz
  ·exact List.mem_append_right _ (List.mem_cons_of_mem _ hz)
 ·rcases List.mem_append.1 hx with hx | hx
  ·exact h.old x hx
  ·rw[List.mem_singleton.1 hx]
   obtain⟨p,hp⟩:=h.live y (List.mem_append_right _ (List.mem_cons_self ..))
   exact Fh hp
 ·have h1:=h.ra
  refine (List.Perm.nodup_iff ?_).1 h1
  simp only[List.map_append,List.map_cons,List.map_nil]
  rw[List.append_assoc,List.append_assoc,List.cons_append]
  refine List.Perm.append_left _ ?_
  rw[← List.append_assoc]
  exact (List.perm_append_singleton _ _).symm
 ·have:=h.all
  simp only[List.length_append,List.length_cons,List.length_nil] at this ⊢
  omega
theorem Gb.take (h:Gb slots seats ws) {p ssrc:Nat} (hf:AN slots<slots.length) (who track:Int):Gb (AO slots (p,ssrc)).1 (seats++[⟨who,track,(AO slots (p,ssrc)).2.1,ssrc⟩]) ws:=by
 rw[AO,if_pos hf]
 dsimp only
 have e0:=List.getElem?_eq_getElem hf
 have hfree:=CW slots _ e0
 have hne:∀ r:Rf,It slots r=true→AN slots≠r.slot.toNat:=by
  intro r hr e
  obtain⟨_,_,s,h1,h2,_⟩:=Fa hr
  rw[← e,e0] at h1
  injection h1 with h1
  rw[← h1,hfree] at h2
  cases h2
 have hat:Ed (slots.set (AN slots) ⟨some (p,ssrc),((Ed slots (AN slots)).turn+1)%4294967296⟩) (AN slots)=⟨some (p,ssrc),((Ed slots (AN slots)).turn+1)%4294967296⟩:=by
  rw[Ed,List.getD_eq_getElem?_getD,List.getElem?_set_self hf]
  rfl
 have hpos:∀ r:Rf,It slots r=true→0≤r.slot:=fun r hr=>(Fa hr).1
 refine⟨fun y hy=>?_,fun x hx=>?_,?_,fun s hs=>?_,by rw[List.length_set];exact h.n64,?_⟩
 ·rcases List.mem_append.1 hy with hy | hy
  ·obtain⟨p,hp⟩:=h.live y hy
   exact⟨p,by rw[arGet_set _ (hne _ (Fh hp))];exact hp⟩
  ·rw[List.mem_singleton.1 hy]
   refine⟨p,?_⟩
   have hi:It (slots.set (AN slots) ⟨some (p,ssrc),((Ed slots (AN slots)).turn+1)%4294967296⟩) ⟨(AN slots:Nat),((Ed slots (AN slots)).turn+1)%4294967296⟩=true:=by
    rw[It]
    simp only[Int.toNat_natCast,List.length_set,hat,Bool.and_eq_true,decide_eq_true_eq]
    exact⟨by omega,by omega,rfl,trivial⟩
   rw[F4,hi,if_pos rfl]
   simp only[Int.toNat_natCast,hat]
 ·rw[Hi _ (hne _ (h.old x hx))]
  exact h.old x hx
 ·rw[List.map_append,List.append_assoc]
  refine (List.Perm.nodup_iff (List.perm_middle.symm:List.Perm _ _)).1 ?_
  rw[List.nodup_cons]
  refine⟨fun hm=>?_,by simpa using h.ra⟩
  simp only[List.map_nil] at hm
  rcases List.mem_append.1 hm with hm | hm
  ·obtain⟨y,hy,e⟩:=List.mem_map.1 hm
   obtain⟨p,hp⟩:=h.live y hy
   exact hne _ (Fh hp) (by rw[show y.ref.slot=((AN slots:Nat):Int) from e];simp)
  ·obtain⟨y,hy,e⟩:=List.mem_map.1 hm
   exact hne _ (h.old y hy) (by rw[show y.1.slot=((AN slots:Nat):Int) from e];simp)
 ·rcases B4 hs with rfl | hs
  ·exact Nat.mod_lt _ (by decide)
  ·exact h.turn s hs
 ·rw[CD slots _ _ _ e0 hfree rfl,h.all,List.length_append]
  simp only[List.length_cons,List.length_nil]
  omega
end
theorem Gb.drop (e:Nat):∀ (l:List Sub) {C:Ct (Nat×Nat)},Gb C.slots C.seats C.pins.waits→(C.seats.map fun y=>(y.who,y.track)).Nodup→(l.map fun x=>(x.who,x.track)).Nodup→(∀ x∈l,∃ y∈C.seats,y.who=x.who∧y.track=x.track) →
  Gb C.slots (C.drop e l).seats (C.drop e l).pins.waits∧(C.drop e l).pins=⟨C.pins.l,C.pins.waits++l.map fun x=>((BR C.seats x.who x.track).ref,e)⟩
 | [],C,h,_,_,_=>⟨h,by simp[Ct.drop]⟩
 | x::l,C,h,hk,hl,hh=>by
  obtain⟨y,hy,e1,e2⟩:=hh x (List.mem_cons_self ..)
  have hso:BR C.seats x.who x.track=y:=by rw[← e1,← e2];exact BY hk hy
  obtain⟨l1,l2,es,ef⟩:=EV hk hy
  rw[e1,e2] at ef
  have hn:=h.nw
  have hns:0<C.seats.length:=List.length_pos_of_mem hy
  have hre:(C.pins.retire y.ref e).1=⟨C.pins.l,C.pins.waits++[(y.ref,e)]⟩:=by rw[Pn.retire,if_neg (by omega)]
  have h2:=(es▸h).retire e
  rw[List.map_cons,List.nodup_cons] at hl
  have hk2:((C.seats.filter fun y=>!(decide (y.who=x.who)&&decide (y.track=x.track))).map fun y=>(y.who,y.track)).Nodup:=(List.filter_sublist.map _).nodup hk
  have hh2:∀ z∈l,∃ y∈(C.seats.filter fun y=>!(decide (y.who=x.who)&&decide (y.track=x.track))),y.who=z.who∧y.track=z.track:=fun z hz=>by
   obtain⟨u,hu,a,b⟩:=hh z (List.mem_cons_of_mem _ hz)
   refine⟨u,List.mem_filter.2 ⟨hu,?_⟩,a,b⟩
   have:(z.who,z.track)≠(x.who,x.track):=fun e=>hl.1 (by rw[← e];exact List.mem_map_of_mem (f:=fun x:Sub=>(x.who,x.track)) hz)
   rw[a,b]
   by_cases c:z.who=x.who<;>by_cases d:z.track=x.track<;>simp[c,d] at this ⊢
  have ih:=Gb.drop e l (C:={ C with pins:=(C.pins.retire (BR C.seats x.who x.track).ref e).1,seats:=C.seats.filter fun y=>!(decide (y.who=x.who)&&decide (y.track=x.track)) }) (by rw[hso,hre];show Gb C.slots (C.seats.filter _) _;rw[ef];exact h2) hk2 hl.2 hh2
  rw[Ct.drop]
  refine⟨ih.1,ih.2.trans ?_⟩
  dsimp only
  rw[hso,hre]
  dsimp only
  rw[List.map_cons,List.append_assoc,hso]
  congr 2
  rw[List.singleton_append]
  congr 1
  refine List.map_congr_left fun z hz=>?_
  obtain⟨u,hu,a,b⟩:=hh2 z hz
  rw[← a,← b,BY hk2 hu,BY hk (List.mem_filter.1 hu).1]
end Go.Proofs.YtmcndlofaanjiaaGreat
