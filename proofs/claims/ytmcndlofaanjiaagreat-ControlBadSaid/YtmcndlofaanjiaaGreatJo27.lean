/- Texts of one claim, laid together: CtO CtI -/
import Derived.Test.YtmcndlofaanjiaaGreatJo26
/- control in plain Lean: what holds of it,always;a request keeps it so;of what it makes a table. -/
namespace Go.Proofs.YtmcndlofaanjiaaGreat
open Go.RowKit
set_option linter.unusedVariables false
set_option maxRecDepth 100000
set_option maxHeartbeats 8000000
theorem EU {α β γ:Type} (l:List α) (f:Nat→α→β) (g:β→γ):(l.mapIdx f).map g=l.mapIdx fun i x=>g (f i x):=List.ext_getElem (by simp) fun i _ _=>by simp
theorem Eh {l:List Nat}:∀ (n:Nat),BK l n=true→∀ j,j<n→0<l.getD j 0∧l.getD j 0<2147483648∧l.getD j 0∉l.take j
 | 0,_,j,hj=>by omega
 | n+1,h,j,hj=>by
  simp only[BK,Bool.and_eq_true,decide_eq_true_eq] at h
  rcases Nat.lt_or_ge j n with hn | hn
  ·exact Eh n h.1 j hn
  ·have:j=n:=by omega
   subst this
   exact⟨h.2.1,h.2.2.1,by simpa using h.2.2.2⟩
theorem mayS_out {l:List Nat} (h:Ew l=true):1≤l.length∧l.length≤3∧l.Nodup∧∀ x∈l,0<x∧x<2147483648:=by
 simp only[Ew,Bool.and_eq_true] at h
 have h1:=AY.1 h.1
 have h2:=Eh _ h.2
 have hg:∀ j (hj:j<l.length),l.getD j 0=l[j]:=fun j hj=>by rw[List.getD_eq_getElem?_getD,List.getElem?_eq_getElem hj];rfl
 refine⟨by omega,by omega,?_,fun x hx=>?_⟩
 ·rw[List.Nodup,List.pairwise_iff_getElem]
  intro i j hi hj hij e
  refine (h2 j hj).2.2 ?_
  rw[hg j hj,← e]
  exact List.mem_take_iff_getElem.2 ⟨i,by omega,rfl⟩
 ·obtain⟨j,hj,rfl⟩:=List.getElem_of_mem hx
  have:=h2 j hj
  rw[hg j hj] at this
  exact⟨this.1,this.2.1⟩
structure BP (C:Ct (Nat×Nat)) (n:Nat):Prop where
 cf:1≤C.cf.shards∧C.cf.shards≤4∧1≤C.cf.keep∧C.cf.keep≤4096
 fit:C.s.Fit n
 few:C.s.Few
 ever:C.ever≤n
 ep:tbE C.t≤n
 key:(C.seats.map fun y=>(y.who,y.track)).Nodup
 has:∀ x∈C.s.subs,∃ y∈C.seats,y.who=x.who∧y.track=x.track
 sub:∀ y∈C.seats,C.s.hasS y.who y.track=true
 ss:∀ y∈C.seats,2147483648≤y.ssrc∧y.ssrc<2147483648+C.ever
 sa:(C.seats.map C0.ssrc).Nodup
 sl:Gb C.slots C.seats C.pins.waits
structure Fl (C:Ct (Nat×Nat)) (s:DS) (n:Nat):Prop where
 cf:1≤C.cf.shards∧C.cf.shards≤4∧1≤C.cf.keep∧C.cf.keep≤4096
 ok:C.s.Ok
 fit:s.Fit n
 few:s.Few
 ever:C.ever≤n
 ep:tbE C.t<n
 key:(C.seats.map fun y=>(y.who,y.track)).Nodup
 has:∀ x∈s.subs,∃ y∈C.seats,y.who=x.who∧y.track=x.track
 gon:∀ x∈C.s.gone s,∃ y∈C.seats,y.who=x.who∧y.track=x.track
 sub:∀ y∈C.seats,s.hasS y.who y.track=true∨IA (C.s.gone s) y=true
 ss:∀ y∈C.seats,2147483648≤y.ssrc∧y.ssrc<2147483648+C.ever
 sa:(C.seats.map C0.ssrc).Nodup
 sl:Gb C.slots C.seats C.pins.waits
section
variable {β:Type}
def Ct.pre (mk:Nat→β) (C:Ct β) (q:Rq):Ct β :=
 if q.kind=5 then { C with slots:=(AO C.slots (mk (2147483648+C.ever))).1,ever:=C.ever+1,seats:=C.seats++[⟨q.who,q.track,(AO C.slots (mk (2147483648+C.ever))).2.1,2147483648+C.ever⟩] } else C
theorem Dx {l:List (ASl β)} {d:β}:(AO l d).2.2=0↔AN l<l.length:=by
 rw[AO]
 split
 ·simp[*]
 ·simp[*]
theorem Gw {mk:Nat→β} {C:Ct β} {q:Rq} (h:C.board.hasRoom=false):C.do_ mk q=(C,0,20):=by rw[Ct.do_,h];rfl
theorem do_err {mk:Nat→β} {C:Ct β} {q:Rq} (h:C.board.hasRoom=true) (h0:(C.s.do_ q).2≠0):C.do_ mk q=(C,0,(C.s.do_ q).2):=by
 rw[Ct.do_,h,if_neg (by decide),if_pos h0]
theorem Gk {mk:Nat→β} {C:Ct β} {q:Rq} (h:C.board.hasRoom=true) (h0:(C.s.do_ q).2=0) (hk:q.kind=5) (hf:¬ AN C.slots<C.slots.length):C.do_ mk q=(C,0,20):=by
 rw[Ct.do_,h,if_neg (by decide),if_neg (fun e=>e h0),if_pos hk]
 dsimp only
 rw[if_pos fun e=>hf (Dx.1 e)]
theorem do_pre {mk:Nat→β} {C:Ct β} {q:Rq} (h:C.board.hasRoom=true) (h0:(C.s.do_ q).2=0) (hf:q.kind=5→AN C.slots<C.slots.length):C.do_ mk q=(C.pre mk q).done (C.s.do_ q).1 q:=by
 rw[Ct.do_,h,if_neg (by decide),if_neg (fun e=>e h0),Ct.pre]
 by_cases hk:q.kind=5
 ·rw[if_pos hk,if_pos hk]
  dsimp only
  rw[if_neg fun e=>e (Dx.2 (hf hk))]
 ·rw[if_neg hk,if_neg hk]
end
theorem Fn {l:List Sub} {y:C0}:IA l y=true↔∃ x∈l,y.who=x.who∧y.track=x.track:=by
 simp[IA]
theorem B9 {α:Type} {l:List α} {x:α} (h:l.Nodup) (hx:x∉l):(l++[x]).Nodup:=by
 rw[List.nodup_append]
 exact⟨h,by simp,fun a ha b hb e=>hx (by rw[← List.mem_singleton.1 hb,← e];exact ha)⟩
theorem BP.mid {C:Ct (Nat×Nat)} {n:Nat} (h:BP C n) {q:Rq} (p:Nat) (h0:(C.s.do_ q).2=0) (hf:q.kind=5→AN C.slots<C.slots.length):Fl (C.pre (fun s=>(p,s)) q) (C.s.do_ q).1 (n+1):=by
 have hgo:∀ x∈C.s.gone (C.s.do_ q).1,∃ y∈C.seats,y.who=x.who∧y.track=x.track:=fun x hx=>h.has x (DS.gone_mem.1 hx).1
 have hsu:∀ y∈C.seats,(C.s.do_ q).1.hasS y.who y.track=true∨IA (C.s.gone (C.s.do_ q).1) y=true:=fun y hy=>by
  cases hc:(C.s.do_ q).1.hasS y.who y.track with
  | true=>exact .inl rfl
  | false =>
   obtain⟨x,hx,a,b⟩:=BL.1 (h.sub y hy)
   exact .inr (Fn.2 ⟨x,DS.gone_mem.2 ⟨hx,by rw[a,b];exact hc⟩,a.symm,b.symm⟩)
 have hev:=h.ever
 have hep:=h.ep
 unfold Ct.pre
 split
 ·next hk =>
  obtain⟨d1,d2⟩:=DS.do_five hk h0
  have hnew:(q.who,q.track)∉C.seats.map fun y=>(y.who,y.track):=fun hm=>by
   obtain⟨y,hy,e⟩:=List.mem_map.1 hm
   injection e with e1 e2
   have:=h.sub y hy
   rw[e1,e2,d1] at this
   cases this
  refine⟨h.cf,h.fit.ok,DS.do_fit h.fit q,DS.do_few h.few q,by dsimp only;omega,by dsimp only;omega,?_,fun x hx=>?_,fun x hx=>?_,fun y hy=>?_,fun y hy=>?_,?_,h.sl.take (hf hk) _ _⟩
  ·rw[List.map_append]
   exact B9 h.key hnew
  ·rcases DS.do_subs h.fit.ok q x hx with hh | ⟨_,a,b⟩
   ·obtain⟨z,hz,a,b⟩:=BL.1 hh
    obtain⟨y,hy,c,d⟩:=h.has z hz
    exact⟨y,List.mem_append_left _ hy,c.trans a,d.trans b⟩
   ·exact⟨_,List.mem_append_right _ (List.mem_singleton.2 rfl),a.symm,b.symm⟩
  ·obtain⟨y,hy,c⟩:=hgo x hx
   exact⟨y,List.mem_append_left _ hy,c⟩
  ·rcases List.mem_append.1 hy with hy | hy
   ·exact hsu y hy
   ·rw[List.mem_singleton.1 hy]
    refine .inl (BL.2 ⟨⟨q.who,q.track,q.layer,q.tid,false⟩,?_,rfl,rfl⟩)
    rw[d2]
    exact Bm.2 (.inl rfl)
  ·rcases List.mem_append.1 hy with hy | hy
   ·have:=h.ss y hy
    dsimp only
    omega
   ·rw[List.mem_singleton.1 hy]
    dsimp only
    omega
  ·rw[List.map_append]
   refine B9 h.sa fun hm=>?_
   obtain⟨y,hy,e⟩:=List.mem_map.1 hm
   have:=h.ss y hy
   dsimp only at e
   omega
 ·next hk =>
  refine⟨h.cf,h.fit.ok,DS.do_fit h.fit q,DS.do_few h.few q,by omega,by omega,h.key,fun x hx=>?_,hgo,hsu,h.ss,h.sa,h.sl⟩
  rcases DS.do_subs h.fit.ok q x hx with hh | ⟨e,_⟩
  ·obtain⟨z,hz,a,b⟩:=BL.1 hh
   obtain⟨y,hy,c,d⟩:=h.has z hz
   exact⟨y,hy,c.trans a,d.trans b⟩
  ·exact absurd e hk
section
variable {C:Ct (Nat×Nat)} {s:DS} {n:Nat}
theorem Fl.gnd (h:Fl C s n):((C.s.gone s).map fun x=>(x.who,x.track)).Nodup:=(List.filter_sublist.map _).nodup (E3 h.ok)
theorem Fl.drop (h:Fl C s n) (e:Nat):BP ({ C with s:=s }.drop e (C.s.gone s)) n:=by
 have h1:=Gb.drop e (C.s.gone s) (C:={ C with s:=s }) h.sl h.key h.gnd h.gon
 have h2:=DB e (C.s.gone s) { C with s:=s }
 have h3:=Dy e (C.s.gone s) { C with s:=s }
 generalize Ct.drop { C with s:=s } e (C.s.gone s)=D at h1 h2 h3 ⊢
 have hsub:D.seats.Sublist C.seats:=by rw[h3];exact List.filter_sublist
 have hm:∀ y,y∈D.seats↔y∈C.seats∧IA (C.s.gone s) y=false:=fun y=>by rw[h3,List.mem_filter];simp
 have hs:D.s=s:=by rw[h2]
 have hsl:D.slots=C.slots:=by rw[h2]
 have hev:D.ever=C.ever:=by rw[h2]
 have hcf:D.cf=C.cf:=by rw[h2]
 have ht:D.t=C.t:=by rw[h2]
 refine⟨by rw[hcf];exact h.cf,by rw[hs];exact h.fit,by rw[hs];exact h.few,by rw[hev];exact h.ever,by rw[ht];exact Nat.le_of_lt h.ep,(hsub.map _).nodup h.key,fun x hx=>?_,fun y hy=>?_,fun y hy=>by rw[hev];exact h.ss y ((hm y).1 hy).1,(hsub.map _).nodup h.sa,by rw[hsl];exact h1.1⟩
 ·rw[hs] at hx
  obtain⟨y,hy,a,b⟩:=h.has x hx
  refine⟨y,(hm y).2 ⟨hy,?_⟩,a,b⟩
  cases hc:IA (C.s.gone s) y with
  | false=>rfl
  | true =>
   obtain⟨z,hz,c,d⟩:=Fn.1 hc
   have:=(DS.gone_mem.1 hz).2
   rw[BL.2 ⟨x,hx,a.symm.trans c,b.symm.trans d⟩] at this
   cases this
 ·obtain⟨a,b⟩:=(hm y).1 hy
  rw[hs]
  rcases h.sub y a with c | c
  ·exact c
  ·rw[b] at c;cases c
theorem FM {q:Rq} (hk:q.kind=0) (s:DS):s.gone (s.do_ q).1=[]:=by
 have e:(s.do_ q).1.subs=s.subs:=by
  unfold DS.do_
  split
  ·rfl
  split
  ·rfl
  rw[DS.call,if_pos hk]
  unfold DS.join
  repeat' split
  all_goals rfl
 rw[DS.gone,List.filter_eq_nil_iff]
 intro x hx
 have:(s.do_ q).1.hasS x.who x.track=true:=BL.2 ⟨x,by rw[e];exact hx,rfl,rfl⟩
 simp[this]
theorem Fl.done (h:Fl C s n) (q:Rq) (hg:q.kind=0→C.s.gone s=[]):BP (C.done s q).1 n:=by
 unfold Ct.done
 dsimp only
 split
 ·next hk =>
  have:=h.drop 0
  rw[hg hk] at this
  exact this
 ·have h1:=h.drop (tbE C.t+1)
  exact⟨h1.cf,h1.fit,h1.few,h1.ever,h.ep,h1.key,h1.has,h1.sub,h1.ss,h1.sa,h1.sl⟩
theorem BP.mono (h:BP C n) {m:Nat} (hm:n≤m):BP C m:=⟨h.cf,h.fit.le hm,h.few,Nat.le_trans h.ever hm,Nat.le_trans h.ep hm,h.key,h.has,h.sub,h.ss,h.sa,h.sl⟩
theorem pre_gone {mk:Nat→Nat×Nat} {q:Rq} (hk:q.kind=0):(C.pre mk q).s.gone (C.s.do_ q).1=[]:=by
 rw[Ct.pre,if_neg (by omega)]
 exact FM hk _
theorem BP.do_ (h:BP C n) (p:Nat) (q:Rq):BP (C.do_ (fun s=>(p,s)) q).1 (n+1):=by
 cases hr:C.board.hasRoom with
 | false=>rw[Gw hr];exact h.mono (Nat.le_succ n)
 | true =>
  by_cases h0:(C.s.do_ q).2=0
  ·by_cases hf:q.kind=5→AN C.slots<C.slots.length
   ·rw[do_pre hr h0 hf]
    exact (h.mid p h0 hf).done q pre_gone
   ·have hk:q.kind=5:=Decidable.byContradiction fun e=>hf fun e2=>absurd e2 e
    rw[Gk hr h0 hk (fun e=>hf fun _=>e)]
    exact h.mono (Nat.le_succ n)
  ·rw[do_err hr h0]
   exact h.mono (Nat.le_succ n)
theorem BP.seat (h:BP C n) {x:Sub} (hx:x∈C.s.subs):BR C.seats x.who x.track∈C.seats∧(BR C.seats x.who x.track).who=x.who∧(BR C.seats x.who x.track).track=x.track:=by
 obtain⟨y,hy,a,b⟩:=h.has x hx
 rw[← a,← b,BY h.key hy]
 exact⟨hy,rfl,rfl⟩
theorem BP.subWf (h:BP C n) {x:Sub} (hx:x∈C.s.subs):1≤x.who∧x.who≤999∧1≤x.track∧x.track≤999:=by
 obtain⟨a,b,_⟩:=h.fit.ok.sIn x hx
 obtain⟨p,hp,e1⟩:=Bs.1 a
 obtain⟨t,ht,e2⟩:=By.1 b
 have h1:=AY.1 (h.fit.ok.pIn p hp).1
 have h2:=AY.1 (h.fit.ok.tIn t ht).1
 omega
theorem BP.subsNe (h:BP C n) {α:Type} {f:C0→α} (hf:(C.seats.map f).Nodup):(C.s.subs.map fun x=>f (BR C.seats x.who x.track)).Nodup:=by
 have hk:=E3 h.fit.ok
 rw[List.Nodup,List.pairwise_map] at hk ⊢
 refine hk.imp_of_mem fun {a b} ha hb hab e=>hab ?_
 obtain⟨a1,a2,a3⟩:=h.seat ha
 obtain⟨b1,b2,b3⟩:=h.seat hb
 have:=A4 hf a1 b1 e
 exact Prod.ext (a2.symm.trans ((congrArg C0.who this).trans b2)) (a3.symm.trans ((congrArg C0.track this).trans b3))
theorem BP.tbFit (h:BP C n) (hn:n<2147483648):TbFit (AP C.cf.shards C.s.tracks) (BA C.cf.shards C.s.tracks C.seats C.s.subs):=by
 obtain⟨l1,l2,l3⟩:=lens h.fit.ok h.few
 have hev:=h.ever
 have htr:=h.fit.ok.tracks
 have hin:=h.fit.ok.tIn
 have hm:=fun t ht=>mayS_out (hin t ht).2.1
 have hrt:∀ t k x,rtOf C.cf.shards t k x=(⟨x,t.id,t.from_,k,t.id%C.cf.shards⟩:Rt):=fun _ _ _=>rfl
 refine⟨?_,?_,?_,?_,?_,fun r hr=>?_,fun d hd=>?_,?_,?_⟩
 ·have e:(AP C.cf.shards C.s.tracks).map Rt.ssrc=C.s.tracks.flatMap Trk.ssrcs:=by
   rw[AP,List.map_flatMap]
   congr 1
   funext t
   rw[Dp,EU]
   show (t.ssrcs.mapIdx fun k x=>x)=t.ssrcs
   exact List.ext_getElem (by simp) fun i _ _=>by simp
  rw[e,List.Nodup,List.pairwise_flatMap]
  exact⟨fun t ht=>(hm t ht).2.2.1,h.fit.ap.imp fun {a b} hab x hx y hy (e:x=y)=>hab x hx (by rw[e];exact hy)⟩
 ·have e:((AP C.cf.shards C.s.tracks).map fun r=>(r.track,r.layer))=C.s.tracks.flatMap fun t=>t.ssrcs.mapIdx fun k _=>(t.id,(k:Int)):=by
   rw[AP,List.map_flatMap]
   congr 1
   funext t
   rw[Dp,EU]
   rfl
  rw[e,List.Nodup,List.pairwise_flatMap]
  refine⟨fun t ht=>?_,htr.imp fun {a b} hab x hx y hy (e:x=y)=>?_⟩
  ·rw[List.pairwise_iff_getElem]
   intro i j hi hj hij e
   simp only[List.getElem_mapIdx,Prod.mk.injEq] at e
   omega
  ·obtain⟨i,hi,rfl⟩:=List.mem_mapIdx.1 hx
   obtain⟨j,hj,rfl⟩:=List.mem_mapIdx.1 hy
   injection e with e1 e2
   omega
 ·rw[BA,List.map_map]
  exact h.subsNe h.sa
 ·rw[BA,List.map_map]
  exact E3 h.fit.ok
 ·rw[BA,List.map_map]
  have hra:(C.seats.map fun y=>y.ref.slot).Nodup:=(List.nodup_append.1 h.sl.ra).1
  refine h.subsNe (f:=C0.ref) ?_
  rw[List.Nodup,List.pairwise_map] at hra ⊢
  exact hra.imp fun hab e=>hab (by rw[e])
 ·obtain⟨t,ht,hr⟩:=List.mem_flatMap.1 hr
  obtain⟨k,hk,rfl⟩:=List.mem_mapIdx.1 hr
  have h1:=AY.1 (hin t ht).1
  have h2:=hm t ht
  rw[hrt]
  dsimp only
  exact⟨(h2.2.2.2 _ (List.getElem_mem hk)).2,CL (by omega) (by omega),CL (by omega) (by omega)⟩
 ·obtain⟨x,hx,rfl⟩:=List.mem_map.1 hd
  obtain⟨a1,a2,a3⟩:=h.seat hx
  have h1:=h.ss _ a1
  have h2:=h.subWf hx
  obtain⟨p,hp⟩:=h.sl.live _ a1
  obtain⟨b1,b2,u,b3,b4,b5⟩:=Fa (Fh hp)
  have h3:=h.sl.turn u (List.mem_of_getElem? b3)
  have h4:=h.sl.n64
  rw[dwOf]
  dsimp only
  exact⟨h1.1,by omega,CL (by omega) (by omega),CL (by omega) (by omega),CL (by omega) (by omega),by omega⟩
 ·have:=Cv C.cf.shards C.s.tracks fun t ht=>(hm t ht).2.1
  omega
 ·rw[BA,List.length_map]
  omega
end
section
variable {C C':Ct (Nat×Nat)} {n:Nat}
theorem BP.same (h:BP C n) (h1:C'.cf=C.cf) (h2:C'.s=C.s) (h3:C'.t=C.t) (h4:C'.ever=C.ever) (h5:C'.seats=C.seats) (h6:C'.slots=C.slots) (h7:C'.pins.waits=C.pins.waits):BP C' n :=
 ⟨by rw[h1];exact h.cf,by rw[h2];exact h.fit,by rw[h2];exact h.few,by rw[h4];exact h.ever,by rw[h3];exact h.ep,by rw[h5];exact h.key,by rw[h2,h5];exact h.has,by rw[h2,h5];exact h.sub,by rw[h4,h5];exact h.ss,by rw[h5];exact h.sa,by rw[h5,h6,h7];exact h.sl⟩
theorem Cc {β:Type} (a:Nat):∀ (l:List Wt) (c:Ct β),(c.flush a l).1={ c with seen:=(c.flush a l).1.seen,waits:=(c.flush a l).1.waits }
 | [],c=>rfl
 | p::l,c=>by
  unfold Ct.flush
  split
  ·have:=Cc a l (c.answer p.id 0 p.calls).1
   dsimp only
   rw[this]
   rfl
  ·rfl
theorem BP.collect (h:BP C n):BP C.collect.1 n:=by
 have e:=Cc C.board.collect.acked C.waits { C with board:=C.board.collect }
 rw[show (Ct.flush { C with board:=C.board.collect } C.board.collect.acked C.waits).1=C.collect.1 from rfl] at e
 rw[e]
 exact h.same rfl rfl rfl rfl rfl rfl rfl
theorem CH {β:Type} (c:Ct β) (n:Int) (id:Nat):(c.again n id).1={ c with waits:=(c.again n id).1.waits }:=by
 unfold Ct.again
 split
 ·rfl
 ·split
  ·split
   ·rfl
   ·rfl
  ·rfl
theorem BP.again (h:BP C n) (k:Int) (id:Nat):BP (C.again k id).1 n:=by
 rw[CH]
 exact h.same rfl rfl rfl rfl rfl rfl rfl
theorem BP.call (h:BP C n) (k:Int) (b:List UInt8):BP (C.call k b).1 n:=by
 unfold Ct.call
 split
 ·exact h.same rfl rfl rfl rfl rfl rfl rfl
 ·exact h
theorem BP.fresh (h:BP C n) (p:Nat) (k:Int) (id:Nat) (q:Rq):BP (C.fresh (fun s=>(p,s)) k id q).1 (n+1):=by
 have h2:=(show BP ({ C with seen:=(C.seen.start id).1 }:Ct (Nat×Nat)) n from h.same rfl rfl rfl rfl rfl rfl rfl).do_ p q
 unfold Ct.fresh
 split
 ·exact h.mono (Nat.le_succ n)
 ·dsimp only
  split
  ·exact h2.same rfl rfl rfl rfl rfl rfl rfl
  ·exact h2.same rfl rfl rfl rfl rfl rfl rfl
theorem BP.accept (h:BP C n) (p:Nat):BP (C.accept (fun s=>(p,s))).1 (n+1):=by
 unfold Ct.accept
 split
 ·exact h.mono (Nat.le_succ n)
 ·next k b l hc =>
  have h1:BP ({ C with calls:=l }:Ct (Nat×Nat)) n:=h.same rfl rfl rfl rfl rfl rfl rfl
  unfold Ct.accept1
  split
  ·exact h1.mono (Nat.le_succ n)
  ·split
   ·exact (h1.again _ _).mono (Nat.le_succ n)
   ·exact h1.fresh p _ _ _
theorem Dr (p:Pn) (i:Int) (e:Nat):(p.install i e).1.waits=p.waits:=by
 unfold Pn.install
 repeat' split
 all_goals rfl
theorem BP.obey (h:BP C n) (k:Nat):BP (C.obey k).1 n:=by
 unfold Ct.obey
 split
 ·exact h
 ·split
  ·exact h
  ·split
   ·exact h.same rfl rfl rfl rfl rfl rfl (Dr _ _ _)
   ·exact h.same rfl rfl rfl rfl rfl rfl (Dr _ _ _)
end
structure Co (d:Dd) (ws:List Wt):Prop where
 nd:(d.l.map (·.1)).Nodup
 idb:∀ x∈d.l,x.1<18446744073709551616
 ans:∀ x∈d.l,∀ b,x.2=some b→∃ e:Nat,e<256∧b=Iw x.1 e
 wait:∀ u∈ws,(u.id,none)∈d.l
 all:∀ x∈d.l,x.2=none→∃ u∈ws,u.id=x.1
 wnd:(ws.map Wt.id).Nodup
 calls:∀ u∈ws,1≤u.calls.length∧u.calls.length≤9
section
variable {d:Dd} {ws:List Wt}
theorem Co.perm {ws':List Wt} (h:Co d ws) (hp:ws.Perm ws'):Co d ws' :=
 ⟨h.nd,h.idb,h.ans,fun u hu=>h.wait u (hp.mem_iff.2 hu),fun x hx e=>by obtain⟨u,hu,a⟩:=h.all x hx e;exact⟨u,hp.mem_iff.1 hu,a⟩,(hp.map _).nodup_iff.1 h.wnd,fun u hu=>h.calls u (hp.mem_iff.2 hu)⟩
theorem Hw {id:Nat}:d.find id=none↔id∉d.l.map (·.1):=by
 rw[Dd.find,Option.map_eq_none_iff,List.find?_eq_none]
 constructor
 ·intro h hm
  obtain⟨x,hx,e⟩:=List.mem_map.1 hm
  exact h x hx (by simpa using e)
 ·intro h x hx e
  exact h (List.mem_map.2 ⟨x,hx,by simpa using e⟩)
theorem EH (hn:(d.l.map (·.1)).Nodup) {id:Nat} {o:Option (List UInt8)}:d.find id=some o↔(id,o)∈d.l:=by
 rw[Dd.find,Option.map_eq_some_iff]
 constructor
 ·rintro⟨x,hx,rfl⟩
  have h1:=List.mem_of_find?_eq_some hx
  have h2:=List.find?_some hx
  simp only[decide_eq_true_eq] at h2
  rw[← h2]
  exact h1
 ·intro hm
  cases hf:d.l.find? fun x=>decide (x.1=id) with
  | none=>exact absurd (List.find?_eq_none.1 hf _ hm) (by simp)
  | some y =>
   have h1:=List.mem_of_find?_eq_some hf
   have h2:=List.find?_some hf
   simp only[decide_eq_true_eq] at h2
   exact⟨y,rfl,by rw[A4 (f:=fun x:Nat×Option (List UInt8)=>x.1) hn h1 hm h2]⟩
theorem Co.end_ {u:Wt} (h:Co d (u::ws)) {e:Nat} (he:e<256):(d.end_ u.id (Iw u.id e)).2=0∧(d.end_ u.id (Iw u.id e)).1=⟨d.room,d.l.map fun x=>if x.1=u.id then (u.id,some (Iw u.id e)) else x⟩∧Co (d.end_ u.id (Iw u.id e)).1 ws:=by
 have hw:=h.wait u (List.mem_cons_self ..)
 have e1:d.end_ u.id (Iw u.id e)=(⟨d.room,d.l.map fun x=>if x.1=u.id then (u.id,some (Iw u.id e)) else x⟩,0):=by
  rw[Dd.end_,(EH h.nd).2 hw]
 rw[e1]
 have hk:∀ x:Nat×Option (List UInt8),(if x.1=u.id then (u.id,some (Iw u.id e)) else x).1=x.1:=fun x=>by split<;>simp[*]
 have hwn:=h.wnd
 rw[List.map_cons,List.nodup_cons] at hwn
 refine⟨rfl,rfl,⟨?_,fun x hx=>?_,fun x hx b hb=>?_,fun v hv=>?_,fun x hx hn=>?_,hwn.2,fun v hv=>h.calls v (List.mem_cons_of_mem _ hv)⟩⟩
 ·rw[List.map_map]
  rw[show ((fun x:Nat×Option (List UInt8)=>x.1)∘fun x=>if x.1=u.id then (u.id,some (Iw u.id e)) else x)=fun x=>x.1 from funext hk]
  exact h.nd
 ·obtain⟨y,hy,rfl⟩:=List.mem_map.1 hx
  rw[hk]
  exact h.idb y hy
 ·obtain⟨y,hy,rfl⟩:=List.mem_map.1 hx
  rw[hk]
  split at hb
  ·next e2 =>
   injection hb with hb
   exact⟨e,he,by rw[← hb,e2]⟩
  ·exact h.ans y hy b hb
 ·have hne:v.id≠u.id:=fun e2=>hwn.1 (by rw[← e2];exact List.mem_map_of_mem hv)
  exact List.mem_map.2 ⟨(v.id,none),h.wait v (List.mem_cons_of_mem _ hv),if_neg hne⟩
 ·obtain⟨y,hy,rfl⟩:=List.mem_map.1 hx
  rw[hk]
  split at hn
  ·cases hn
  ·next e2 =>
   obtain⟨v,hv,e3⟩:=h.all y hy hn
   rcases List.mem_cons.1 hv with rfl | hv
   ·exact absurd e3.symm e2
   ·exact⟨v,hv,e3⟩
theorem Co.start (h:Co d ws) {id:Nat} (hid:id<18446744073709551616) (hf:d.find id=none) (h0:(d.start id).2=0) (ep:Nat) (k:Int):Co (d.start id).1 (ws++[⟨id,ep,[k]⟩]):=by
 have hni:=Hw.1 hf
 have hw:id∉ws.map Wt.id:=fun hm=>by
  obtain⟨u,hu,e⟩:=List.mem_map.1 hm
  exact hni (List.mem_map.2 ⟨(u.id,none),h.wait u hu,e⟩)
 have main:∀ l:List (Nat×Option (List UInt8)),l.Sublist d.l→(∀ u∈ws,(u.id,none)∈l)→Co ⟨d.room,l++[(id,none)]⟩ (ws++[⟨id,ep,[k]⟩]):=by
  intro l hl hall
  refine⟨?_,fun x hx=>?_,fun x hx b hb=>?_,fun u hu=>?_,fun x hx hn=>?_,?_,fun u hu=>?_⟩
  ·rw[List.map_append]
   exact B9 ((hl.map _).nodup h.nd) (fun hm=>hni ((hl.map _).subset hm))
  ·rcases List.mem_append.1 hx with hx | hx
   ·exact h.idb x (hl.subset hx)
   ·rw[List.mem_singleton.1 hx];exact hid
  ·rcases List.mem_append.1 hx with hx | hx
   ·exact h.ans x (hl.subset hx) b hb
   ·rw[List.mem_singleton.1 hx] at hb;cases hb
  ·rcases List.mem_append.1 hu with hu | hu
   ·exact List.mem_append_left _ (hall u hu)
   ·rw[List.mem_singleton.1 hu];exact List.mem_append_right _ (List.mem_singleton.2 rfl)
  ·rcases List.mem_append.1 hx with hx | hx
   ·obtain⟨u,hu,e⟩:=h.all x (hl.subset hx) hn
    exact⟨u,List.mem_append_left _ hu,e⟩
   ·rw[List.mem_singleton.1 hx]
    exact⟨_,List.mem_append_right _ (List.mem_singleton.2 rfl),rfl⟩
  ·rw[List.map_append]
   exact B9 h.wnd hw
  ·rcases List.mem_append.1 hu with hu | hu
   ·exact h.calls u hu
   ·rw[List.mem_singleton.1 hu]
    exact⟨by simp,by simp⟩
 unfold Dd.start at h0 ⊢
 rw[hf] at h0 ⊢
 simp only[Option.isSome_none,Bool.false_eq_true,if_false] at h0 ⊢
 split
 ·next hr =>
  rw[if_pos hr] at h0
  split
  ·next hl=>rw[hl] at h0;cases h0
  ·next x hl=>rw[hl] at h0;cases h0
  ·next x l hx hl =>
   refine main l (by rw[hl];exact List.sublist_cons_self ..) fun u hu=>?_
   have:=h.wait u hu
   rw[hl] at this
   rcases List.mem_cons.1 this with e | e
   ·exact absurd e.symm (hx u.id)
   ·exact e
 ·exact main d.l (List.Sublist.refl _) h.wait
theorem Co.set {i:Nat} {k:Int} (h:Co d ws) (hi:i<ws.length) (h8:¬ 8<(ws.getD i wt0).calls.length):Co d (ws.set i ⟨(ws.getD i wt0).id,(ws.getD i wt0).epoch,(ws.getD i wt0).calls++[k]⟩):=by
 have hg:ws.getD i wt0=ws[i]:=by rw[List.getD_eq_getElem?_getD,List.getElem?_eq_getElem hi];rfl
 rw[hg] at h8 ⊢
 have hid:(ws.set i ⟨ws[i].id,ws[i].epoch,ws[i].calls++[k]⟩).map Wt.id=ws.map Wt.id:=by
  rw[List.map_set]
  exact List.ext_getElem (by simp) fun j a b=>by
   rw[List.getElem_set]
   split
   ·next e=>subst e;simp
   ·rfl
 refine⟨h.nd,h.idb,h.ans,fun u hu=>?_,fun x hx hn=>?_,by rw[hid];exact h.wnd,fun u hu=>?_⟩
 ·rcases B4 hu with rfl | hu
  ·exact h.wait ws[i] (List.getElem_mem hi)
  ·exact h.wait u hu
 ·obtain⟨u,hu,e⟩:=h.all x hx hn
  have:u.id∈(ws.set i ⟨ws[i].id,ws[i].epoch,ws[i].calls++[k]⟩).map Wt.id:=by rw[hid];exact List.mem_map_of_mem hu
  obtain⟨v,hv,e2⟩:=List.mem_map.1 this
  exact⟨v,hv,e2.trans e⟩
 ·rcases B4 hu with rfl | hu
  ·have:=h.calls ws[i] (List.getElem_mem hi)
   simp only[List.length_append,List.length_cons,List.length_nil]
   omega
  ·exact h.calls u hu
end
section
variable {β:Type} {C:Ct β}
theorem Co.again (h:Co C.seen C.waits) (k:Int) (id:Nat):Co (C.again k id).1.seen (C.again k id).1.waits:=by
 unfold Ct.again
 split
 ·exact h
 ·split
  ·next hi =>
   split
   ·exact h
   ·next h8=>exact h.set hi h8
  ·exact h
theorem Co.flush (a:Nat):∀ (l:List Wt) {C:Ct β},Co C.seen l→Co (C.flush a l).1.seen (C.flush a l).1.waits
 | [],C,h=>h
 | p::l,C,h=>by
  unfold Ct.flush
  split
  ·exact Co.flush a l (h.end_ (e:=0) (by decide)).2.2
  ·exact h
theorem Co.collect (h:Co C.seen C.waits):Co C.collect.1.seen C.collect.1.waits:=Co.flush (C:={ C with board:=C.board.collect }) _ _ h
def BT (x:Int):Prop:=∃ e:Nat,e<256∧x=e
theorem BT.nat {e:Nat} (h:e<256):BT e:=⟨e,h,rfl⟩
theorem ownE_err {s:DS} {q:Rq}:BT (s.ownE q):=by
 unfold DS.ownE
 split
 ·exact BT.nat (e:=21) (by decide)
 split
 ·exact BT.nat (e:=24) (by decide)
 ·exact BT.nat (e:=0) (by decide)
theorem do_errs {s:DS} (q:Rq):BT (s.do_ q).2:=by
 have e0:BT 0:=BT.nat (e:=0) (by decide)
 have e1:BT 1:=BT.nat (e:=1) (by decide)
 have e20:BT 20:=BT.nat (e:=20) (by decide)
 have e21:BT 21:=BT.nat (e:=21) (by decide)
 have e22:BT 22:=BT.nat (e:=22) (by decide)
 have e23:BT 23:=BT.nat (e:=23) (by decide)
 have e24:BT 24:=BT.nat (e:=24) (by decide)
 have e25:BT 25:=BT.nat (e:=25) (by decide)
 have eo:=ownE_err (s:=s) (q:=q)
 unfold DS.do_
 split
 ·exact e1
 split
 ·exact e21
 unfold DS.call
 split
 ·unfold DS.join
  repeat' split
  all_goals first | exact e0 | exact e1 | exact e20 | exact e21 | exact e22 | exact e23 | exact e24 | exact e25 | exact eo
 split
 ·exact e0
 split
 ·unfold DS.publish
  repeat' split
  all_goals first | exact e0 | exact e1 | exact e20 | exact e21 | exact e22 | exact e23 | exact e24 | exact e25 | exact eo
 split
 ·unfold DS.unpublish
  repeat' split
  all_goals first | exact e0 | exact e1 | exact e20 | exact e21 | exact e22 | exact e23 | exact e24 | exact e25 | exact eo
 split
 ·unfold DS.replace
  repeat' split
  all_goals first | exact e0 | exact e1 | exact e20 | exact e21 | exact e22 | exact e23 | exact e24 | exact e25 | exact eo
 split
 ·unfold DS.subscribe
  repeat' split
  all_goals first | exact e0 | exact e1 | exact e20 | exact e21 | exact e22 | exact e23 | exact e24 | exact e25 | exact eo
 split
 ·unfold DS.unsubscribe
  repeat' split
  all_goals first | exact e0 | exact e1 | exact e20 | exact e21 | exact e22 | exact e23 | exact e24 | exact e25 | exact eo
 split
 ·unfold DS.mutes
  repeat' split
  all_goals first | exact e0 | exact e1 | exact e20 | exact e21 | exact e22 | exact e23 | exact e24 | exact e25 | exact eo
 split
 ·unfold DS.mutes
  repeat' split
  all_goals first | exact e0 | exact e1 | exact e20 | exact e21 | exact e22 | exact e23 | exact e24 | exact e25 | exact eo
 unfold DS.selects
 repeat' split
 all_goals first | exact e0 | exact e1 | exact e20 | exact e21 | exact e22 | exact e23 | exact e24 | exact e25 | exact eo
theorem GX (C:Ct β) (s:DS) (q:Rq):(C.done s q).2.2=0:=by
 unfold Ct.done
 dsimp only
 split<;>rfl
theorem GN (mk:Nat→β) (C:Ct β) (q:Rq):BT (C.do_ mk q).2.2:=by
 unfold Ct.do_
 split
 ·exact⟨20,by decide,rfl⟩
 split
 ·exact do_errs q
 split
 ·dsimp only
  split
  ·exact⟨20,by decide,rfl⟩
  ·exact⟨0,by decide,GX _ _ _⟩
 ·exact⟨0,by decide,GX _ _ _⟩
theorem FR (C:Ct β) (s:DS) (q:Rq):(C.done s q).1.seen=C.seen∧(C.done s q).1.waits=C.waits∧(C.done s q).1.calls=C.calls∧(C.done s q).1.cf=C.cf:=by
 unfold Ct.done
 dsimp only
 split
 ·exact⟨rfl,rfl,rfl,rfl⟩
 ·rw[DB]
  exact⟨rfl,rfl,rfl,rfl⟩
theorem Fc (mk:Nat→β) (C:Ct β) (q:Rq):(C.do_ mk q).1.seen=C.seen∧(C.do_ mk q).1.waits=C.waits∧(C.do_ mk q).1.calls=C.calls∧(C.do_ mk q).1.cf=C.cf:=by
 unfold Ct.do_
 split
 ·exact⟨rfl,rfl,rfl,rfl⟩
 split
 ·exact⟨rfl,rfl,rfl,rfl⟩
 split
 ·dsimp only
  split
  ·exact⟨rfl,rfl,rfl,rfl⟩
  ·exact FR _ _ _
 ·exact FR _ _ _
theorem Co.fresh (h:Co C.seen C.waits) (mk:Nat→β) (k:Int) {id:Nat} (hid:id<18446744073709551616) (hf:C.seen.find id=none) (q:Rq):Co (C.fresh mk k id q).1.seen (C.fresh mk k id q).1.waits:=by
 obtain⟨a1,a2,_⟩:=Fc mk ({ C with seen:=(C.seen.start id).1 }:Ct β) q
 obtain⟨e,he,h3⟩:=GN mk ({ C with seen:=(C.seen.start id).1 }:Ct β) q
 unfold Ct.fresh
 split
 ·exact h
 ·next h0 =>
  have h0:(C.seen.start id).2=0:=Decidable.byContradiction h0
  generalize ({ C with seen:=(C.seen.start id).1 }:Ct β).do_ mk q=D at *
  dsimp only at a1 a2 ⊢
  split
  ·have h2:=((h.start hid hf h0 0 k).perm (List.perm_append_comm:List.Perm _ ([⟨id,0,[k]⟩]++C.waits))).end_ he
   show Co (Dd.end_ D.1.seen id (Iw id D.2.2)).1 D.1.waits
   rw[a1,a2,h3]
   exact h2.2.2
  ·show Co D.1.seen (D.1.waits++_)
   rw[a1,a2]
   exact h.start hid hf h0 _ k
theorem Co.accept (h:Co C.seen C.waits) (mk:Nat→β) (hb:∀ b,Eg b<18446744073709551616):Co (C.accept mk).1.seen (C.accept mk).1.waits:=by
 unfold Ct.accept
 split
 ·exact h
 ·next k b l hc =>
  unfold Ct.accept1
  split
  ·exact h
  ·split
   ·exact Co.again (C:={ C with calls:=l }) h _ _
   ·next hf=>exact Co.fresh (C:={ C with calls:=l }) h mk _ (hb b) (by simpa using hf) _
end
end Go.Proofs.YtmcndlofaanjiaaGreat
