/- Texts of one claim, laid together: DelL -/
import Derived.Test.YtmcndlofaanjiaaGreatJo04
/- delta in plain Lean: people,tracks,and who is sent what. -/
namespace Go.Proofs.YtmcndlofaanjiaaGreat
open Go.RowKit
set_option linter.unusedVariables false
set_option maxRecDepth 100000
set_option maxHeartbeats 8000000
structure Per where
 who:Int
 room:Int
 rights:Int
 deriving DecidableEq
structure Trk where
 id:Int
 owner:Int
 from_:Int
 ssrcs:List Nat
 deriving DecidableEq
structure Sub where
 who:Int
 track:Int
 layer:Int
 tid:Int
 muted:Bool
 deriving DecidableEq
structure DS where
 mp:Int
 mt:Int
 ms:Int
 ml:Int
 people:List Per
 tracks:List Trk
 subs:List Sub
def inB (x a b:Int):Bool:=decide (a≤x)&&decide (x≤b)
def Sub.lt (a:Sub) (who track:Int):Bool:=decide (a.who<who)||(decide (a.who=who)&&decide (a.track<track))
def Sub.is (a:Sub) (who track:Int):Bool:=decide (a.who=who)&&decide (a.track=track)
def DS.pAt (s:DS) (who:Int):Nat:=(s.people.takeWhile fun p=>decide (p.who<who)).length
def DS.tAt (s:DS) (id:Int):Nat:=(s.tracks.takeWhile fun t=>decide (t.id<id)).length
def DS.sAt (s:DS) (who track:Int):Nat:=(s.subs.takeWhile fun x=>x.lt who track).length
def DS.hasP (s:DS) (who:Int):Bool:=s.people.any fun p=>decide (p.who=who)
def DS.hasT (s:DS) (id:Int):Bool:=s.tracks.any fun t=>decide (t.id=id)
def DS.hasS (s:DS) (who track:Int):Bool:=s.subs.any fun x=>x.is who track
def pZ0:Per:=⟨0,0,0⟩
def tZ0:Trk:=⟨0,0,0,[]⟩
def sZ0:Sub:=⟨0,0,0,0,false⟩
def DS.per (s:DS) (who:Int):Per:=s.people.getD (s.pAt who) pZ0
def DS.trk (s:DS) (id:Int):Trk:=s.tracks.getD (s.tAt id) tZ0
def DS.sub (s:DS) (who track:Int):Sub:=s.subs.getD (s.sAt who track) sZ0
def BK (l:List Nat):Nat→Bool
 | 0=>true
 | k+1=>BK l k&&(decide (0<l.getD k 0)&&(decide (l.getD k 0<2147483648)&&!(l.take k).contains (l.getD k 0)))
def Ew (l:List Nat):Bool:=inB l.length 1 3&&BK l l.length
def DS.taken (s:DS) (l:List Nat):Bool:=s.tracks.any fun t=>t.ssrcs.any fun x=>l.contains x
def AV {α:Type} (l:List α) (i:Nat) (x:α):List α:=l.take i++x::l.drop i
def DS.cut (s:DS) (is:Trk→Bool):DS :=
 let tr:=s.tracks.filter fun t=>!is t
 ⟨s.mp,s.mt,s.ms,s.ml,s.people,tr,s.subs.filter fun x=>tr.any fun t=>decide (t.id=x.track)⟩
def DS.layers (q:Rq):Bool:=inB q.layer 0 2&&inB q.tid 0 3
def DS.has (s:DS) (who:Int):Nat:=(s.subs.filter fun x=>decide (x.who=who)).length
def DS.setPeople (s:DS) (l:List Per):DS:=⟨s.mp,s.mt,s.ms,s.ml,l,s.tracks,s.subs⟩
def DS.setTracks (s:DS) (l:List Trk):DS:=⟨s.mp,s.mt,s.ms,s.ml,s.people,l,s.subs⟩
def DS.setSubs (s:DS) (l:List Sub):DS:=⟨s.mp,s.mt,s.ms,s.ml,s.people,s.tracks,l⟩
def DS.join (s:DS) (q:Rq):DS×Int :=
 if !(inB q.who 1 999&&(inB q.room 1 9&&inB q.rights 0 3)) then (s,1)
 else if s.hasP q.who then (s,22)
 else if s.mp≤s.people.length then (s,20)
 else (s.setPeople (AV s.people (s.pAt q.who) ⟨q.who,q.room,q.rights⟩),0)
def DS.leave (s:DS) (q:Rq):DS×Int :=
 (((s.setPeople (s.people.filter fun p=>decide (p.who≠q.who))).setSubs (s.subs.filter fun x=>decide (x.who≠q.who))).cut (fun t=>decide (t.owner=q.who)),0)
def DS.publish (s:DS) (q:Rq):DS×Int :=
 if (s.per q.who).rights%2=0 then (s,24)
 else if !(inB q.track 1 999&&Ew q.ssrcs) then (s,1)
 else if s.hasT q.track||s.taken q.ssrcs then (s,22)
 else if s.mt≤s.tracks.length then (s,20)
 else (s.setTracks (AV s.tracks (s.tAt q.track) ⟨q.track,q.who,0,q.ssrcs⟩),0)
def DS.ownE (s:DS) (q:Rq):Int:=if !s.hasT q.track then 21 else if (s.trk q.track).owner≠q.who then 24 else 0
def DS.unpublish (s:DS) (q:Rq):DS×Int :=
 if s.ownE q≠0 then (s,s.ownE q) else (s.cut fun t=>decide (t.id=q.track),0)
def DS.replace (s:DS) (q:Rq):DS×Int :=
 if s.ownE q≠0 then (s,s.ownE q)
 else if !Ew q.ssrcs then (s,1)
 else if s.taken q.ssrcs then (s,22)
 else (s.setTracks (s.tracks.set (s.tAt q.track) ⟨(s.trk q.track).id,(s.trk q.track).owner,(s.trk q.track).from_+1,q.ssrcs⟩),0)
def DS.subscribe (s:DS) (q:Rq):DS×Int :=
 if (s.per q.who).rights / 2%2=0 then (s,24)
 else if !s.hasT q.track then (s,21)
 else if (s.per (s.trk q.track).owner).room≠(s.per q.who).room then (s,24)
 else if s.hasS q.who q.track then (s,22)
 else if !DS.layers q then (s,1)
 else if s.ms≤s.has q.who then (s,25)
 else if s.ml≤s.subs.length then (s,20)
 else (s.setSubs (AV s.subs (s.sAt q.who q.track) ⟨q.who,q.track,q.layer,q.tid,false⟩),0)
def DS.unsubscribe (s:DS) (q:Rq):DS×Int :=
 if !s.hasS q.who q.track then (s,21)
 else (s.setSubs (s.subs.eraseIdx (s.sAt q.who q.track)),0)
def DS.mutes (s:DS) (q:Rq) (m:Bool):DS×Int :=
 if !s.hasS q.who q.track then (s,21)
 else if (s.sub q.who q.track).muted=m then (s,23)
 else (s.setSubs (s.subs.set (s.sAt q.who q.track) { s.sub q.who q.track with muted:=m }),0)
def DS.selects (s:DS) (q:Rq):DS×Int :=
 if !s.hasS q.who q.track then (s,21)
 else if !DS.layers q then (s,1)
 else (s.setSubs (s.subs.set (s.sAt q.who q.track) { s.sub q.who q.track with layer:=q.layer,tid:=q.tid }),0)
def DS.call (s:DS) (q:Rq):DS×Int :=
 if q.kind=0 then s.join q else if q.kind=1 then s.leave q else if q.kind=2 then s.publish q else if q.kind=3 then s.unpublish q
 else if q.kind=4 then s.replace q else if q.kind=5 then s.subscribe q else if q.kind=6 then s.unsubscribe q
 else if q.kind=7 then s.mutes q true else if q.kind=8 then s.mutes q false else s.selects q
def DS.do_ (s:DS) (q:Rq):DS×Int :=
 if !inB q.kind 0 9 then (s,1)
 else if q.kind≠0∧s.hasP q.who=false then (s,21)
 else s.call q
def DS.gone (a b:DS):List Sub:=a.subs.filter fun x=>!b.hasS x.who x.track
structure DS.Ok (s:DS):Prop where
 people:s.people.Pairwise fun a b=>a.who<b.who
 tracks:s.tracks.Pairwise fun a b=>a.id<b.id
 subs:s.subs.Pairwise fun a b=>a.lt b.who b.track=true
 pIn:∀ p∈s.people,inB p.who 1 999=true∧inB p.room 1 9=true∧inB p.rights 0 3=true
 tIn:∀ t∈s.tracks,inB t.id 1 999=true∧Ew t.ssrcs=true∧s.hasP t.owner=true∧0≤t.from_
 sIn:∀ x∈s.subs,s.hasP x.who=true∧s.hasT x.track=true∧inB x.layer 0 2=true∧inB x.tid 0 3=true
 np:(s.people.length:Int)≤s.mp
 nt:(s.tracks.length:Int)≤s.mt
 ns:(s.subs.length:Int)≤s.ml
def DS.new (mp mt ms ml:Int):DS:=⟨mp,mt,ms,ml,[],[],[]⟩
theorem DS.new_ok {mp mt ms ml:Int} (h1:0≤mp) (h2:0≤mt) (h4:0≤ml):(DS.new mp mt ms ml).Ok :=
 ⟨.nil,.nil,.nil,fun _ h=>by simp[DS.new] at h,fun _ h=>by simp[DS.new] at h,fun _ h=>by simp[DS.new] at h,by simpa[DS.new] using h1,by simpa[DS.new] using h2,by simpa[DS.new] using h4⟩
theorem AY {x a b:Int}:inB x a b=true↔a≤x∧x≤b:=by simp[inB]
theorem Bs {s:DS} {who:Int}:s.hasP who=true↔∃ p∈s.people,p.who=who:=by simp[DS.hasP]
theorem By {s:DS} {id:Int}:s.hasT id=true↔∃ t∈s.tracks,t.id=id:=by simp[DS.hasT]
theorem BL {s:DS} {a b:Int}:s.hasS a b=true↔∃ x∈s.subs,x.who=a∧x.track=b:=by simp[DS.hasS,Sub.is]
theorem Bq {α:Type} (f:α→Int):∀ (l:List α),l.Pairwise (fun a b=>f a<f b)→∀ (x:Int) (i:Nat) (h:i<l.length),(i<(l.takeWhile fun a=>decide (f a<x)).length↔f l[i]<x)
 | [],_,_,i,h=>by simp at h
 | a::l,hp,x,i,h=>by
  obtain⟨ha,hl⟩:=List.pairwise_cons.1 hp
  by_cases hx:f a<x
  ·rw[List.takeWhile_cons_of_pos (by simpa using hx)]
   cases i with
   | zero=>simpa using hx
   | succ i =>
    have:=Bq f l hl x i (by simpa using h)
    simpa using this
  ·rw[List.takeWhile_cons_of_neg (by simpa using hx)]
   cases i with
   | zero=>simpa using hx
   | succ i =>
    have hi:i<l.length:=by simpa using h
    have h2:=ha l[i] (List.getElem_mem hi)
    simp only[List.length_nil,Nat.not_lt_zero,List.getElem_cons_succ,false_iff]
    omega
theorem Fv {s:DS} (h:s.Ok) (who:Int) (i:Nat) (hi:i<s.people.length):i<s.pAt who↔s.people[i].who<who:=Bq Per.who s.people h.people who i hi
theorem FE {s:DS} (h:s.Ok) (id:Int) (i:Nat) (hi:i<s.tracks.length):i<s.tAt id↔s.tracks[i].id<id:=Bq Trk.id s.tracks h.tracks id i hi
theorem BO {α:Type} (p:α→Bool) (l:List α):(l.takeWhile p).length≤l.length:=(List.takeWhile_sublist p).length_le
theorem pAt_le (s:DS) (who:Int):s.pAt who≤s.people.length:=BO _ _
theorem tAt_le (s:DS) (id:Int):s.tAt id≤s.tracks.length:=BO _ _
theorem sAt_le (s:DS) (a b:Int):s.sAt a b≤s.subs.length:=BO _ _
theorem GT {s:DS} (h:s.Ok) {who:Int} (hp:s.hasP who=true):s.pAt who<s.people.length∧(s.per who).who=who:=by
 obtain⟨p,hm,rfl⟩:=Bs.1 hp
 obtain⟨i,hi,rfl⟩:=List.getElem_of_mem hm
 have h1:¬ i<s.pAt s.people[i].who:=by rw[Fv h _ _ hi];omega
 have h2:s.pAt s.people[i].who=i:=by
  refine Nat.le_antisymm (by omega) ?_
  refine Nat.le_of_not_lt fun hlt=>?_
  have h3:s.pAt s.people[i].who<s.people.length:=by omega
  have h4:=List.pairwise_iff_getElem.1 h.people _ _ h3 hi hlt
  have h5:=(Fv h s.people[i].who _ h3).2 h4
  omega
 refine⟨by omega,?_⟩
 rw[DS.per,h2,List.getD,List.getElem?_eq_getElem hi,Option.getD_some]
theorem EK {s:DS} (h:s.Ok) {id:Int} (hp:s.hasT id=true):s.tAt id<s.tracks.length∧(s.trk id).id=id:=by
 obtain⟨p,hm,rfl⟩:=By.1 hp
 obtain⟨i,hi,rfl⟩:=List.getElem_of_mem hm
 have h1:¬ i<s.tAt s.tracks[i].id:=by rw[FE h _ _ hi];omega
 have h2:s.tAt s.tracks[i].id=i:=by
  refine Nat.le_antisymm (by omega) ?_
  refine Nat.le_of_not_lt fun hlt=>?_
  have h3:s.tAt s.tracks[i].id<s.tracks.length:=by omega
  have h4:=List.pairwise_iff_getElem.1 h.tracks _ _ h3 hi hlt
  have h5:=(FE h s.tracks[i].id _ h3).2 h4
  omega
 refine⟨by omega,?_⟩
 rw[DS.trk,h2,List.getD,List.getElem?_eq_getElem hi,Option.getD_some]
theorem Sub.lt_trans {a b:Sub} {w t:Int} (h:a.lt b.who b.track=true) (h':b.lt w t=true):a.lt w t=true:=by
 simp only[Sub.lt,Bool.or_eq_true,Bool.and_eq_true,decide_eq_true_eq] at *
 omega
theorem Sub.lt_irr {a:Sub}:a.lt a.who a.track=false:=by
 simp[Sub.lt]
theorem Sub.lt_tot {a:Sub} {w t:Int} (h1:a.lt w t=false) (h2:a.is w t=false) (b:Sub) (hb:b.who=w∧b.track=t):b.lt a.who a.track=true:=by
 simp only[Sub.lt,Sub.is,Bool.or_eq_true,Bool.and_eq_true,Bool.or_eq_false_iff,Bool.and_eq_false_iff,decide_eq_true_eq,decide_eq_false_iff_not] at *
 omega
theorem sAt_len:∀ (l:List Sub),l.Pairwise (fun a b=>a.lt b.who b.track=true)→∀ (w t:Int) (i:Nat) (h:i<l.length),(i<(l.takeWhile fun x=>x.lt w t).length↔l[i].lt w t=true)
 | [],_,_,_,i,h=>by simp at h
 | a::l,hp,w,t,i,h=>by
  obtain⟨ha,hl⟩:=List.pairwise_cons.1 hp
  by_cases hx:a.lt w t=true
  ·rw[List.takeWhile_cons_of_pos (by simpa using hx)]
   cases i with
   | zero=>simpa using hx
   | succ i =>
    have:=sAt_len l hl w t i (by simpa using h)
    simpa using this
  ·rw[List.takeWhile_cons_of_neg (by simpa using hx)]
   cases i with
   | zero=>simpa using hx
   | succ i =>
    have hi:i<l.length:=by simpa using h
    have h2:=ha l[i] (List.getElem_mem hi)
    simp only[List.length_nil,Nat.not_lt_zero,List.getElem_cons_succ,false_iff]
    exact fun h3=>hx (Sub.lt_trans h2 h3)
theorem F1 {s:DS} (h:s.Ok) (w t:Int) (i:Nat) (hi:i<s.subs.length):i<s.sAt w t↔s.subs[i].lt w t=true:=sAt_len s.subs h.subs w t i hi
theorem D9 {s:DS} (h:s.Ok) {w t:Int} (hp:s.hasS w t=true):s.sAt w t<s.subs.length∧(s.sub w t).who=w∧(s.sub w t).track=t:=by
 obtain⟨p,hm,rfl,rfl⟩:=BL.1 hp
 obtain⟨i,hi,rfl⟩:=List.getElem_of_mem hm
 have h1:¬ i<s.sAt s.subs[i].who s.subs[i].track:=by rw[F1 h _ _ _ hi,Sub.lt_irr];simp
 have h2:s.sAt s.subs[i].who s.subs[i].track=i:=by
  refine Nat.le_antisymm (by omega) ?_
  refine Nat.le_of_not_lt fun hlt=>?_
  have h3:s.sAt s.subs[i].who s.subs[i].track<s.subs.length:=by omega
  have h4:=List.pairwise_iff_getElem.1 h.subs _ _ h3 hi hlt
  have h5:=(F1 h s.subs[i].who s.subs[i].track _ h3).2 h4
  omega
 refine⟨by omega,?_⟩
 rw[DS.sub,h2,List.getD,List.getElem?_eq_getElem hi,Option.getD_some]
 exact⟨rfl,rfl⟩
theorem Bm {α:Type} {l:List α} {i:Nat} {x y:α}:y∈AV l i x↔y=x∨y∈l:=by
 have e:y∈l↔y∈l.take i∨y∈l.drop i:=by rw[← List.mem_append,List.take_append_drop]
 simp only[AV,List.mem_append,List.mem_cons,e]
 constructor
 ·rintro (h | h | h)
  ·exact .inr (.inl h)
  ·exact .inl h
  ·exact .inr (.inr h)
 ·rintro (h | h | h)
  ·exact .inr (.inl h)
  ·exact .inl h
  ·exact .inr (.inr h)
theorem BH {α:Type} (l:List α) (i:Nat) (x:α):(AV l i x).length=l.length+1:=by
 simp only[AV,List.length_append,List.length_cons,List.length_take,List.length_drop]
 omega
theorem B3 {α:Type} {R:α→α→Prop} {l:List α} {i:Nat} {x:α} (h:l.Pairwise R) (h1:∀ (j:Nat) (hj:j<l.length),j<i→R l[j] x) (h2:∀ (j:Nat) (hj:j<l.length),i≤j→R x l[j]):(AV l i x).Pairwise R:=by
 have ht:(l.take i++l.drop i).Pairwise R:=by rw[List.take_append_drop];exact h
 obtain⟨p1,p2,p3⟩:=List.pairwise_append.1 ht
 refine List.pairwise_append.2 ⟨p1,List.pairwise_cons.2 ⟨fun y hy=>?_,p2⟩,fun a ha b hb=>?_⟩
 ·obtain⟨j,hj,rfl⟩:=List.getElem_of_mem hy
  rw[List.getElem_drop]
  exact h2 _ (by simp at hj;omega) (by omega)
 ·rcases List.mem_cons.1 hb with rfl | hb
  ·obtain⟨j,hj,rfl⟩:=List.getElem_of_mem ha
   rw[List.getElem_take]
   exact h1 j (by simp at hj;omega) (by simp at hj;omega)
  ·exact p3 a ha b hb
theorem DD {b:Bool} (h:(!b)=false):b=true:=by simpa using h
theorem hasP_set {s:DS} {l:List Per} {who:Int}:(s.setPeople l).hasP who=true↔∃ p∈l,p.who=who:=by simp[DS.hasP,DS.setPeople]
theorem DS.join_ok {s:DS} (h:s.Ok) (q:Rq):(s.join q).1.Ok:=by
 unfold DS.join
 split
 ·exact h
 ·split
  ·exact h
  ·split
   ·exact h
   ·next h1 h2 h3 =>
    simp only[Bool.not_eq_true',Bool.not_eq_false,Bool.and_eq_true] at h1
    have hno:∀ (j:Nat) (hj:j<s.people.length),s.people[j].who≠q.who:=fun j hj e=>h2 (Bs.2 ⟨_,List.getElem_mem hj,e⟩)
    have hmono:∀ who,s.hasP who=true→(s.setPeople (AV s.people (s.pAt q.who) ⟨q.who,q.room,q.rights⟩)).hasP who=true:=fun who hw=>by
     obtain⟨p,hp,e⟩:=Bs.1 hw
     exact hasP_set.2 ⟨p,Bm.2 (.inr hp),e⟩
    refine⟨B3 h.people (fun j hj hlt=>(Fv h q.who j hj).1 hlt) (fun j hj hle=>?_),h.tracks,h.subs,fun p hp=>?_,fun t ht=>?_,fun x hx=>?_,?_,h.nt,h.ns⟩
    ·have h4:¬ s.people[j].who<q.who:=fun hc=>by have:=(Fv h q.who j hj).2 hc;omega
     have:=hno j hj
     show q.who<s.people[j].who
     omega
    ·rcases Bm.1 hp with rfl | hp
     ·exact⟨h1.1,h1.2.1,h1.2.2⟩
     ·exact h.pIn p hp
    ·obtain⟨a,b,c,d⟩:=h.tIn t ht
     exact⟨a,b,hmono _ c,d⟩
    ·obtain⟨a,b,c,d⟩:=h.sIn x hx
     exact⟨hmono _ a,b,c,d⟩
    ·show ((AV s.people (s.pAt q.who) ⟨q.who,q.room,q.rights⟩).length:Int)≤s.mp
     rw[BH]
     omega
theorem DS.cut_ok {s:DS} (h:s.Ok) (is:Trk→Bool) (l:List Per) (m:List Sub) (hl:l.Sublist s.people) (hm:m.Sublist s.subs) (ho:∀ t∈s.tracks,is t=false→∃ p∈l,p.who=t.owner) (hs:∀ x∈m,∃ p∈l,p.who=x.who):(((s.setPeople l).setSubs m).cut is).Ok:=by
 have hsub:((m.filter fun x=>(s.tracks.filter fun t=>!is t).any fun t=>decide (t.id=x.track))).Sublist s.subs:=(List.filter_sublist).trans hm
 refine⟨h.people.sublist hl,h.tracks.sublist List.filter_sublist,h.subs.sublist hsub,fun p hp=>h.pIn p (hl.subset hp),fun t ht=>?_,fun x hx=>?_,?_,?_,?_⟩
 ·obtain⟨h1,h2⟩:=List.mem_filter.1 ht
  obtain⟨a,b,_,d⟩:=h.tIn t h1
  exact⟨a,b,Bs.2 (ho t h1 (by simpa using h2)),d⟩
 ·obtain⟨h1,h2⟩:=List.mem_filter.1 hx
  obtain⟨a,b,c,d⟩:=h.sIn x (hm.subset h1)
  exact⟨Bs.2 (hs x h1),h2,c,d⟩
 ·have:=hl.length_le
  have:=h.np
  show (l.length:Int)≤s.mp
  omega
 ·have:=(List.filter_sublist (l:=s.tracks) (p:=fun t=>!is t)).length_le
  have:=h.nt
  show ((s.tracks.filter fun t=>!is t).length:Int)≤s.mt
  omega
 ·have:=hsub.length_le
  have:=h.ns
  show ((m.filter fun x=>(s.tracks.filter fun t=>!is t).any fun t=>decide (t.id=x.track)).length:Int)≤s.ml
  omega
theorem DS.leave_ok {s:DS} (h:s.Ok) (q:Rq):(s.leave q).1.Ok:=by
 refine DS.cut_ok h _ _ _ List.filter_sublist List.filter_sublist (fun t ht hn=>?_) (fun x hx=>?_)
 ·obtain⟨p,hp,e⟩:=Bs.1 (h.tIn t ht).2.2.1
  refine⟨p,List.mem_filter.2 ⟨hp,?_⟩,e⟩
  simp only[decide_eq_false_iff_not] at hn
  simpa[e] using hn
 ·obtain⟨h1,h2⟩:=List.mem_filter.1 hx
  obtain⟨p,hp,e⟩:=Bs.1 (h.sIn x h1).1
  refine⟨p,List.mem_filter.2 ⟨hp,?_⟩,e⟩
  simp only[decide_eq_true_eq] at h2
  simpa[e] using h2
theorem DS.unpublish_ok {s:DS} (h:s.Ok) (q:Rq):(s.unpublish q).1.Ok:=by
 unfold DS.unpublish
 split
 ·exact h
 ·exact DS.cut_ok (s:=s) h _ s.people s.subs (.refl _) (.refl _) (fun t ht _=>Bs.1 (h.tIn t ht).2.2.1) (fun x hx=>Bs.1 (h.sIn x hx).1)
theorem DS.publish_ok {s:DS} (h:s.Ok) (q:Rq) (hp:s.hasP q.who=true):(s.publish q).1.Ok:=by
 unfold DS.publish
 split
 ·exact h
 ·split
  ·exact h
  ·split
   ·exact h
   ·split
    ·exact h
    ·next h1 h2 h3 h4 =>
     simp only[Bool.not_eq_true',Bool.not_eq_false,Bool.and_eq_true] at h2
     simp only[Bool.or_eq_true,not_or] at h3
     have hno:∀ (j:Nat) (hj:j<s.tracks.length),s.tracks[j].id≠q.track:=fun j hj e=>h3.1 (By.2 ⟨_,List.getElem_mem hj,e⟩)
     refine⟨h.people,B3 h.tracks (fun j hj hlt=>(FE h q.track j hj).1 hlt) (fun j hj hle=>?_),h.subs,h.pIn,fun t ht=>?_,fun x hx=>?_,h.np,?_,h.ns⟩
     ·have h5:¬ s.tracks[j].id<q.track:=fun hc=>by have:=(FE h q.track j hj).2 hc;omega
      have:=hno j hj
      show q.track<s.tracks[j].id
      omega
     ·rcases Bm.1 ht with rfl | ht
      ·exact⟨h2.1,h2.2,hp,by simp⟩
      ·exact h.tIn t ht
     ·obtain⟨a,b,c,d⟩:=h.sIn x hx
      obtain⟨t,ht,e⟩:=By.1 b
      exact⟨a,By.2 ⟨t,Bm.2 (.inr ht),e⟩,c,d⟩
     ·show ((AV s.tracks (s.tAt q.track) ⟨q.track,q.who,0,q.ssrcs⟩).length:Int)≤s.mt
      rw[BH]
      omega
theorem EF {α:Type} {R:α→α→Prop} {l:List α} {i:Nat} {x:α} (h:l.Pairwise R) (h1:∀ (hi:i<l.length) (y:α),R l[i] y→R x y) (h2:∀ (hi:i<l.length) (y:α),R y l[i]→R y x):(l.set i x).Pairwise R:=by
 rw[List.pairwise_iff_getElem] at h ⊢
 intro a b ha hb hab
 have ha':a<l.length:=by simpa using ha
 have hb':b<l.length:=by simpa using hb
 have h0:=h a b ha' hb' hab
 rw[List.getElem_set,List.getElem_set]
 split
 ·next e=>subst e;rw[if_neg (by omega)];exact h1 ha' _ h0
 ·split
  ·next e=>subst e;exact h2 hb' _ h0
  ·exact h0
theorem B4 {α:Type} {l:List α} {i:Nat} {x y:α} (h:y∈l.set i x):y=x∨y∈l:=by
 rcases List.mem_or_eq_of_mem_set h with h | h
 ·exact .inr h
 ·exact .inl h
theorem DS.ownE_ok {s:DS} {q:Rq} (h:¬ s.ownE q≠0):s.hasT q.track=true∧(s.trk q.track).owner=q.who:=by
 unfold DS.ownE at h
 split at h
 ·exact absurd (by decide) h
 ·next h1 =>
  split at h
  ·exact absurd (by decide) h
  ·next h2=>exact⟨by simpa using h1,Classical.not_not.1 h2⟩
theorem DS.replace_ok {s:DS} (h:s.Ok) (q:Rq):(s.replace q).1.Ok:=by
 unfold DS.replace
 split
 ·exact h
 ·split
  ·exact h
  ·split
   ·exact h
   ·next h1 h2 h3 =>
    obtain⟨ht,ho⟩:=DS.ownE_ok h1
    obtain⟨hlt,hid⟩:=EK h ht
    have e:s.trk q.track=s.tracks[s.tAt q.track]:=by rw[DS.trk,List.getD,List.getElem?_eq_getElem hlt,Option.getD_some]
    have hin:=h.tIn _ (List.getElem_mem hlt)
    rw[← e] at hin
    refine⟨h.people,EF h.tracks (fun hi y hy=>by rw[← e] at hy;exact hy) (fun hi y hy=>by rw[← e] at hy;exact hy),h.subs,h.pIn,fun t htm=>?_,fun x hx=>?_,h.np,?_,h.ns⟩
    ·rcases B4 htm with rfl | htm
     ·exact⟨hin.1,by simpa using h2,hin.2.2.1,by have:=hin.2.2.2;show 0≤(s.trk q.track).from_+1;omega⟩
     ·exact h.tIn t htm
    ·obtain⟨a,b,c,d⟩:=h.sIn x hx
     refine⟨a,?_,c,d⟩
     obtain⟨t,htm,et⟩:=By.1 b
     obtain⟨j,hj,rfl⟩:=List.getElem_of_mem htm
     refine By.2 ⟨(s.tracks.set (s.tAt q.track) ⟨(s.trk q.track).id,(s.trk q.track).owner,(s.trk q.track).from_+1,q.ssrcs⟩)[j]'(by simpa using hj),List.getElem_mem _,?_⟩
     rw[List.getElem_set]
     split
     ·next ej=>subst ej;rw[← et,← e]
     ·exact et
    ·have:=h.nt
     show ((s.tracks.set _ _).length:Int)≤s.mt
     rw[List.length_set]
     exact this
theorem DS.setSubs_ok {s:DS} (h:s.Ok) (l:List Sub) (h1:l.Pairwise fun a b=>a.lt b.who b.track=true) (h2:∀ x∈l,s.hasP x.who=true∧s.hasT x.track=true∧inB x.layer 0 2=true∧inB x.tid 0 3=true) (h3:(l.length:Int)≤s.ml):(s.setSubs l).Ok :=
 ⟨h.people,h.tracks,h1,h.pIn,h.tIn,h2,h.np,h.nt,h3⟩
theorem DS.subscribe_ok {s:DS} (h:s.Ok) (q:Rq) (hp:s.hasP q.who=true):(s.subscribe q).1.Ok:=by
 unfold DS.subscribe
 split
 ·exact h
 ·split
  ·exact h
  ·split
   ·exact h
   ·split
    ·exact h
    ·split
     ·exact h
     ·split
      ·exact h
      ·split
       ·exact h
       ·next h1 h2 h3 h4 h5 h6 h7 =>
        have hT:s.hasT q.track=true:=by simpa using h2
        have hL:inB q.layer 0 2=true∧inB q.tid 0 3=true:=by simpa[DS.layers] using h5
        refine DS.setSubs_ok h _ (B3 h.subs (fun j hj hlt=>(F1 h _ _ j hj).1 hlt) (fun j hj hle=>?_)) (fun x hx=>?_) ?_
        ·have h8:¬ s.subs[j].lt q.who q.track=true:=fun hc=>by have:=(F1 h _ _ j hj).2 hc;omega
         have h9:¬ s.subs[j].is q.who q.track=true:=fun hc=>h4 (by
          simp only[Sub.is,Bool.and_eq_true,decide_eq_true_eq] at hc
          exact BL.2 ⟨_,List.getElem_mem hj,hc.1,hc.2⟩)
         exact Sub.lt_tot (by simpa using h8) (by simpa using h9) _ ⟨rfl,rfl⟩
        ·rcases Bm.1 hx with rfl | hx
         ·exact⟨hp,hT,hL.1,hL.2⟩
         ·exact h.sIn x hx
        ·rw[BH];omega
theorem DS.unsubscribe_ok {s:DS} (h:s.Ok) (q:Rq):(s.unsubscribe q).1.Ok:=by
 unfold DS.unsubscribe
 split
 ·exact h
 ·have hsl:(s.subs.eraseIdx (s.sAt q.who q.track)).Sublist s.subs:=List.eraseIdx_sublist _ _
  refine DS.setSubs_ok h _ (h.subs.sublist hsl) (fun x hx=>h.sIn x (hsl.subset hx)) ?_
  have:=hsl.length_le
  have:=h.ns
  omega
theorem DS.setSub_ok {s:DS} (h:s.Ok) {w t:Int} (hs:s.hasS w t=true) (x:Sub) (h1:x.who=(s.sub w t).who) (h2:x.track=(s.sub w t).track) (h3:inB x.layer 0 2=true∧inB x.tid 0 3=true):(s.setSubs (s.subs.set (s.sAt w t) x)).Ok:=by
 obtain⟨hlt,hw,ht⟩:=D9 h hs
 have e:s.sub w t=s.subs[s.sAt w t]:=by rw[DS.sub,List.getD,List.getElem?_eq_getElem hlt,Option.getD_some]
 have hin:=h.sIn _ (List.getElem_mem hlt)
 rw[← e] at hin
 refine DS.setSubs_ok h _ (EF h.subs (fun hi y hy=>?_) (fun hi y hy=>?_)) (fun y hy=>?_) (by rw[List.length_set];exact h.ns)
 ·rw[← e] at hy
  simpa only [Sub.lt,h1,h2] using hy
 ·rw[← e] at hy
  rw[h1,h2]
  exact hy
 ·rcases B4 hy with rfl | hy
  ·rw[h1,h2];exact⟨hin.1,hin.2.1,h3⟩
  ·exact h.sIn y hy
theorem sub_in {s:DS} (h:s.Ok) {w t:Int} (hs:s.hasS w t=true):inB (s.sub w t).layer 0 2=true∧inB (s.sub w t).tid 0 3=true:=by
 obtain⟨hlt,_,_⟩:=D9 h hs
 have e:s.sub w t=s.subs[s.sAt w t]:=by rw[DS.sub,List.getD,List.getElem?_eq_getElem hlt,Option.getD_some]
 rw[e]
 exact (h.sIn _ (List.getElem_mem hlt)).2.2
theorem DS.mutes_ok {s:DS} (h:s.Ok) (q:Rq) (m:Bool):(s.mutes q m).1.Ok:=by
 unfold DS.mutes
 split
 ·exact h
 ·split
  ·exact h
  ·next h1 h2 =>
   have hs:s.hasS q.who q.track=true:=by simpa using h1
   exact DS.setSub_ok h hs _ rfl rfl (sub_in h hs)
theorem DS.selects_ok {s:DS} (h:s.Ok) (q:Rq):(s.selects q).1.Ok:=by
 unfold DS.selects
 split
 ·exact h
 ·split
  ·exact h
  ·next h1 h2 =>
   have hs:s.hasS q.who q.track=true:=by simpa using h1
   exact DS.setSub_ok h hs _ rfl rfl (by simpa[DS.layers] using h2)
theorem DS.do_ok {s:DS} (h:s.Ok) (q:Rq):(s.do_ q).1.Ok:=by
 unfold DS.do_
 split
 ·exact h
 ·split
  ·exact h
  ·next h1 h2 =>
   have hp:q.kind≠0→s.hasP q.who=true:=fun hk=>by
    cases hc:s.hasP q.who
    ·exact absurd ⟨hk,hc⟩ h2
    ·rfl
   unfold DS.call
   split
   ·exact DS.join_ok h q
   ·next hk =>
    have hp:=hp hk
    repeat' split
    ·exact DS.leave_ok h q
    ·exact DS.publish_ok h q hp
    ·exact DS.unpublish_ok h q
    ·exact DS.replace_ok h q
    ·exact DS.subscribe_ok h q hp
    ·exact DS.unsubscribe_ok h q
    ·exact DS.mutes_ok h q true
    ·exact DS.mutes_ok h q false
    ·exact DS.selects_ok h q
end Go.Proofs.YtmcndlofaanjiaaGreat
