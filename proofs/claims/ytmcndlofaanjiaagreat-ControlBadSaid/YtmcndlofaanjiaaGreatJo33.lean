/- Texts of one claim, laid together: CtG CtW -/
import Derived.Lib.ConvBytes
import Derived.WalkMore
import Derived.Test.YtmcndlofaanjiaaGreatJo32
/- control.again. (Written by gen_ctag.py.) -/
namespace Go.Proofs.YtmcndlofaanjiaaGreat
open Go.RowKit
set_option linter.unusedVariables false
set_option maxRecDepth 100000
set_option maxHeartbeats 8000000
theorem slInt:SlT Tryz.prog 76 3 (.int .i64 0) 1 8:=⟨Tryz.underlying76,by kernel_rfl,rfl,by omega⟩
theorem toldEn_eq (b:List UInt8):(DL b:Int)=toldE b:=by
 unfold DL toldE
 split
 ·next h =>
  have h1:q1 b=(b.drop 8,0):=by
   unfold q1 stp cut
   rw[if_neg (by simp),if_neg (by simp[Ey]),if_neg (by simp[h])]
   rfl
  have h2:nm (q1 b) 1=val ((b.drop 8).take 1):=by
   rw[h1]
   unfold nm cut
   rw[if_neg (by simp),if_neg (by simp[Ey]),if_neg (by simp[h])]
   rfl
  rw[h2,List.getD,List.getElem?_eq_getElem (show 8<b.length by omega),Option.getD_some]
  have h3:(b.drop 8).take 1=[b[8]]:=by
   rw[List.drop_eq_getElem_cons (by omega)]
   rfl
  rw[h3]
  simp[val]
 ·rfl
theorem wpl_bytes {P:Program} {ops:Array Oper} {rest:List Oper} {o:Oper} {a:Act} {w:World} {Q:Exit→Act→World→Prop} {src dst e:TypeId} (l:List UInt8) (hgd:o.guard=none) (x:Operand) (hop:o.op=.convert src dst x) {u:TypeDesc} (hs:P.underlying src=some u) (hd:P.underlying dst=some (.slice e)) (he:P.underlying e=some (.int .u8)) (hx:a.eval x=.string (str l))
  (h:∀ A cap w',RSl 1 RU8 w' l (.slice A l.length cap)→Le w w'→wpList P ops Q rest (a.put o.dst (.slice A l.length cap)) w'):wpList P ops Q (o::rest) a w:=by
 refine wpList_plain hgd fun K' hK'=>?_
 have hsz:(str l).size=l.length:=by simp[str,ByteArray.size]
 have hr:=Lib.run_convert_string_bytes (P:=P) w src dst e (str l) hs hd he
 unfold Oper.wp
 simp only[execOp,hop,hx,Sem.run_bind,hr,Result.andThen_ok,Sem.run_pure]
 refine hK' _ _ ?_
 rw[hsz]
 refine h _ _ _ ⟨_,_,rfl,?_,fun _=>⟨_,0,rfl,fun i hi=>⟨[.int .u8 l[i].toNat],rfl,fun j hj=>?_,?_⟩⟩⟩ ⟨?_⟩
 ·exact grownCap_ge _ _ _ _
 ·obtain rfl:j=0:=by omega
  have h2:=Lib.bytesWorld_cell w e (str l) i (by rw[hsz];exact hi)
  rw[show (str l).data.toList.getD i 0=l[i] by simp[str,hi]] at h2
  simpa using h2
 ·rfl
 ·exact⟨rfl,rfl,rfl,by rw[Lib.bytesWorld_size];omega,fun k hk=>Lib.bytesWorld_at_old w e (str l) k hk⟩
theorem AA.single {M:Nat→Prop} {w:World} {T s gb:Nat} {x:List Value} (h:w.heap[gb]?=some (.cells x.toArray T (0,0))) (hx:x.length=s) (hM:M gb):AA M w T s (.slice (some ⟨gb,0,none⟩) 1 1) [x] :=
 ⟨⟨by simp[hx],.inr ⟨gb,1,x.toArray,rfl,Nat.zero_le _,h,Nat.le_refl _,by decide,by simp[hx],by simp[← hx]⟩⟩,fun k hk=>by simp only[Value.ownBlock,Option.some.injEq] at hk;exact hk▸hM,fun y hy=>by rw[List.mem_singleton.1 hy];exact hx⟩
theorem OwO.at1 {M:Nat→Prop} {w:World} {T:Nat} {v:Value} {xs:List (List Value)} (h:OwO M w T 1 v xs) (hne:xs≠[]):∃ gb o cap,v=.slice (some ⟨gb,o,none⟩) xs.length cap∧∀ (i:Nat) x u,xs[i]?=some x→x[0]?=some u→w.cell? ⟨gb,o+i,none⟩=some u:=by
 rcases h.val with ⟨_,_,e⟩ | ⟨gb,off,cap,cur,e,hg,r1,r2,r3,r4,r5⟩
 ·exact absurd e hne
 ·refine⟨gb,off*1,cap,e,fun i x u hi hu=>?_⟩
  have:=r5 i x hi 0 (by omega)
  rw[hu,Nat.mul_one,Nat.add_zero] at this
  rw[Ae hg,List.getElem?_toArray,Nat.mul_one]
  exact this
def Ct.againW {β:Type} (c:Ct β) (n:Int) (id:Nat):Ct β×List Rp :=
 if c.waitOf id<c.waits.length then
  (if 8<(c.waits.getD (c.waitOf id) wt0).calls.length then (c,[⟨n,id,20⟩])
   else ({ c with waits:=c.waits.set (c.waitOf id) ⟨(c.waits.getD (c.waitOf id) wt0).id,(c.waits.getD (c.waitOf id) wt0).epoch,(c.waits.getD (c.waitOf id) wt0).calls++[n]⟩ },[]))
 else (c,[⟨n,id,20⟩])
theorem waitOf_at {β:Type} {c:Ct β} {id k:Nat} {wt:Wt} (hk:c.waits[k]?=some wt) (hid:wt.id=id) (hno:∀ (j:Nat) (u:Wt),j<k→c.waits[j]?=some u→u.id≠id):c.waitOf id=k:=by
 obtain⟨hlt,e⟩:=List.getElem?_eq_some_iff.1 hk
 have e1:c.waits=c.waits.take k++wt::c.waits.drop (k+1):=by rw[← e,← List.drop_eq_getElem_cons hlt,List.take_append_drop]
 rw[Ct.waitOf,e1,List.takeWhile_append_of_pos (fun u hu=>by
  obtain⟨j,hj,ej⟩:=List.getElem_of_mem hu
  rw[List.length_take] at hj
  rw[List.getElem_take] at ej
  simpa using hno j u (by omega) (by rw[← ej];exact List.getElem?_eq_getElem (by omega))),List.takeWhile_cons_of_neg (by simpa using hid),List.append_nil,List.length_take]
 omega
theorem Di {α:Type} {p:α→Bool}:∀ {l:List α},(∀ x∈l,p x=true)→l.takeWhile p=l
 | [],_=>rfl
 | x::l,h=>by rw[List.takeWhile_cons_of_pos (h x (List.mem_cons_self ..)),Di (fun y hy=>h y (List.mem_cons_of_mem _ hy))]
theorem Gd {β:Type} {c:Ct β} {id:Nat} (hno:∀ (j:Nat) (u:Wt),j<c.waits.length→c.waits[j]?=some u→u.id≠id):¬ c.waitOf id<c.waits.length:=by
 rw[Ct.waitOf,Di (fun u hu=>by
  obtain⟨j,hj,ej⟩:=List.getElem_of_mem hu
  simpa using hno j u hj (by rw[← ej];exact List.getElem?_eq_getElem hj))]
 omega
theorem OwO.typed {M:Nat→Prop} {w:World} {T s:Nat} {v:Value} {xs:List (List Value)} (h:OwO M w T s v xs):OwO (fun k=>M k∧∃ cs fr,w.heap[k]?=some (.cells cs T fr)) w T s v xs :=
 ⟨h.val,fun A n cap e hc=>⟨h.blk A n cap e hc,by
  rcases h.val with ⟨A',e',_⟩ | ⟨gb,off,cap',cur,e',hg,_⟩
  ·rw[e] at e';injection e' with _ _ e3;omega
  ·rw[e] at e'
   injection e' with e1 _ _
   injection e1 with e1
   subst e1
   exact⟨_,_,hg⟩⟩,h.len⟩
theorem OwO.keepT {M S:Nat→Prop} {w w':World} {T s:Nat} {v:Value} {xs:List (List Value)} (h:OwO M w T s v xs) (hf:Fp S w w') (hs:∀ k,S k→∀ cs fr,w.heap[k]?≠some (.cells cs T fr)):OwO M w' T s v xs :=
 (h.typed.fp hf (fun k hk e=>by obtain⟨_,cs,fr,e⟩:=e;exact hs k hk cs fr e)).mono (fun k _ e=>e.1)
section
variable {g:Nat→Nat} {w:World} {c:Nat} {X:CtX} {C:Ct (Nat×Nat)}
theorem Cu.push {w5 wr:World} {wv v' cv:Value} {ws:List (Nat×Value)} {l:List Wt} {k p n0:Nat} {wt:Wt} {n:Int} (h:Cu g wr wv ws l) (hn0:∀ kk,n0≤kk→Bn g n0 10 kk=10) (hlt:∀ kk,kk<wr.heap.size→g kk=10→kk<n0) (hwn:n0≤wr.heap.size) (hk:ws[k]?=some (p,cv)) (hl:l[k]?=some wt)
  {w4:World} (ha:EB wr 3 1 cv (wt.calls.map Hu) (Hu n) v' w4) (hg5:w4.grownBy w5 (some p)) (h5:w5.heap[p]?=some (.cells #[.int .u64 wt.id,.int .u64 wt.epoch,v'] 172 (0,0))) :
  DP (Bn g n0 10) w5 wv (l.set k ⟨wt.id,wt.epoch,wt.calls++[n]⟩):=by
 obtain⟨hp,hgp,hcv⟩:=h.pd.at_ k _ _ hk hl
 have f4:Fp (fun kk=>cv.ownBlock=some kk) wr w4:=Fp.of_gr ha.gr
 have f5:Fp (fun kk=>kk=p) w4 w5:=Fp.of_grown hg5 rfl
 have hp4:=f4.heap hp (fun e=>hcv.row_ne hp (by decide) e)
 have mv:∀ {M:Nat→Prop} {T s:Nat} {v:Value} {xs:List (List Value)},AA M wr T s v xs→(∀ kk,v.ownBlock=some kk→cv.ownBlock≠some kk)→T≠172→AA M w5 T s v xs:=fun hv hne hT =>
  (show AA _ w4 _ _ _ _ from ⟨Bp hv.own f4 (fun kk hk e=>hne kk hk e),hv.blk,hv.len⟩).other hg5 hp4 hT
 have mg:∀ {T s:Nat} {v:Value} {xs:List (List Value)} {W:World},AA (tg g 10) wr T s v xs→AA (tg g 10) W T s v xs→AA (tg (Bn g n0 10)  10) W T s v xs:=fun hr hv=>⟨hv.own,fun kk hk=>(Az kk (hlt kk (hr.lt hk) (hr.blk kk hk))).trans (hv.blk kk hk),hv.len⟩
 have e1:((ws.set k (p,v')).map fun x=>pV x.1)=ws.map fun x=>pV x.1:=BM (y:=(p,v')) (fun x:Nat×Value=>pV x.1) hk rfl
 have e2:((ws.set k (p,v')).map (·.1))=ws.map (·.1):=BM (y:=(p,v')) (·.1) hk rfl
 have hkl:=(List.getElem?_eq_some_iff.1 hk).1
 refine⟨ws.set k (p,v'),?_,⟨by rw[List.length_set,List.length_set];exact h.pd.len,fun i x y hx hy=>?_⟩,by rw[e2];exact h.np,?_⟩
 ·rw[e1]
  have h1:=(h.row.mono (M':=fun kk=>tg g 10 kk∧kk<n0) (fun kk h1 h2=>⟨h2,hlt kk h1 h2⟩)).keepT f4 (fun kk hk cs fr e=>hcv.row_ne e (by decide) hk)
  have h2:=h1.keepT f5 (fun kk hk cs fr e=>by subst hk;rw[hp4] at e;cases e)
  exact h2.mono fun kk _ e=>(Az kk e.2).trans e.1
 ·rw[List.getElem?_set] at hx hy
  split at hx
  ·next e =>
   subst e
   rw[if_pos rfl] at hy
   rw[if_pos (by rw[← h.pd.len];exact hkl)] at hy
   injection hx with hx
   injection hy with hy
   subst hx hy
   refine⟨h5,(Az _ (hlt p (Ah hp) hgp)).trans hgp,?_⟩
   have h1:=(ha.ownR hcv rfl).other hg5 hp4 (by decide)
   rw[List.map_append]
   refine⟨h1.own,fun kk hk=>?_,h1.len⟩
   rcases Nat.lt_or_ge kk wr.heap.size with hh | hh
   ·rcases h1.blk kk hk with e3 | e3
    ·exact (Az kk (hlt kk hh e3)).trans e3
    ·omega
   ·exact hn0 kk (Nat.le_trans hwn hh)
  ·next e =>
   rw[if_neg e] at hy
   obtain⟨h1,h2,h3⟩:=h.pd.at_ i x y hx hy
   have hxp:x.1≠p:=fun e3=>by
    obtain⟨hi1,hi2⟩:=List.getElem?_eq_some_iff.1 hx
    have hkk:=(List.getElem?_eq_some_iff.1 hk).2
    have hp':=List.pairwise_iff_getElem.1 h.np
    rcases Nat.lt_or_gt_of_ne e with hlt' | hgt'
    ·exact hp' k i (by simpa using hkl) (by simpa using hi1) hlt' (by simp[hi2,hkk,e3])
    ·exact hp' i k (by simpa using hi1) (by simpa using hkl) hgt' (by simp[hi2,hkk,e3])
   have hxc:∀ kk,x.2.ownBlock=some kk→cv.ownBlock≠some kk:=fun kk hkk e3=>by
    obtain⟨hi1,hi2⟩:=List.getElem?_eq_some_iff.1 hx
    have hk2:=(List.getElem?_eq_some_iff.1 hk).2
    have hp':=List.pairwise_iff_getElem.1 h.nc
    rcases Nat.lt_or_gt_of_ne e with hlt' | hgt'
    ·have:=hp' k i hkl hi1 hlt' kk (by rw[hk2];exact e3);rw[hi2] at this;exact this hkk
    ·have:=hp' i k hi1 hkl hgt' kk (by rw[hi2];exact hkk);rw[hk2] at this;exact this e3
   exact⟨f5.heap (f4.heap h1 (fun e3=>hcv.row_ne h1 (by decide) e3)) hxp,(Az _ (hlt _ (Ah h1) h2)).trans h2,mg h3 (mv h3 hxc (by decide))⟩
 ·have hrow:∀ (i:Nat) (hi:i<ws.length) (kk:Nat),(ws[i]).2.ownBlock=some kk→kk<wr.heap.size:=fun i hi kk hkk=>by
   obtain⟨_,_,h3⟩:=h.pd.at_ i _ _ (List.getElem?_eq_getElem hi) (List.getElem?_eq_getElem (show i<l.length by rw[← h.pd.len];exact hi))
   exact h3.lt hkk
  have hk2:=(List.getElem?_eq_some_iff.1 hk).2
  have hp':=List.pairwise_iff_getElem.1 h.nc
  have hv':∀ kk,v'.ownBlock=some kk→cv.ownBlock=some kk∨wr.heap.size≤kk:=fun kk hkk=>by
   rcases ha.blk with eb | ⟨gb,eb,hgb⟩
   ·exact .inl (eb▸hkk)
   ·rw[eb] at hkk;injection hkk with hkk;exact .inr (hkk▸hgb)
  rw[List.pairwise_iff_getElem]
  intro i j hi hj hij kk hkk e3
  have hi':i<ws.length:=by simpa using hi
  have hj':j<ws.length:=by simpa using hj
  by_cases hik:i=k
  ·subst hik
   rw[List.getElem_set_self] at hkk
   rw[List.getElem_set_ne (by omega)] at e3
   rcases hv' kk hkk with e4 | e4
   ·exact hp' i j hi' hj' hij kk (by rw[hk2];exact e4) e3
   ·have:=hrow j hj' kk e3;omega
  ·rw[List.getElem_set_ne (by omega)] at hkk
   by_cases hjk:j=k
   ·subst hjk
    rw[List.getElem_set_self] at e3
    rcases hv' kk e3 with e4 | e4
    ·exact hp' i j hi' hj' hij kk hkk (by rw[hk2];exact e4)
    ·have:=hrow i hi' kk hkk;omega
   ·rw[List.getElem_set_ne (by omega)] at e3
    exact hp' i j hi' hj' hij kk hkk e3
end
section
variable {g:Nat→Nat} {w:World} {c:Nat} {X:CtX} {C:Ct (Nat×Nat)}
def DM (g:Nat→Nat) (w:World) (c:Nat) (X:CtX) (r:Ct (Nat×Nat)×List Rp) (en:Ending) (w':World):Prop :=
 ∃ v g',en=.returned v∧AA (fun k=>w.heap.size≤k∧g' k=0) w' 70 3 v (r.2.map rpC)∧Bj g w c X g' w' X r.1
theorem Bg.re (h:Bg g w c X C) (i:Nat) {w':World} (hl:Le w w'):Bj g w c X (Bn g w.heap.size i) w' X C :=
 ⟨h.mv (S:=fun _=>False) (Fp.of_le hl) (fun _ h=>h.elim) Az,Az,rfl,rfl,rfl,Fp.of_le hl⟩
theorem DM.one (h:Bg g w c X C) {w':World} (hl:Le w w') (r:Rp):DM g w c X (C,[r]) (.returned (.slice (some ⟨w'.heap.size,0,none⟩) 1 1)) (w'.alloc (.cells (rpC r).toArray 70)) :=
 ⟨_,_,rfl,AA.single (heap_alloc_new _ _) rfl ⟨hl.size,AM hl.size⟩,h.re 0 (hl.alloc _)⟩
theorem gNew_two {n i j:Nat}:Bn (Bn g n i) n j=Bn g n j:=by
 funext k
 unfold Bn
 split<;>rfl
theorem Cu.re0 {w':World} {wv:Value} {ws:List (Nat×Value)} {l:List Wt} (h:Cu g w wv ws l) (hl:Le w w'):Cu (Bn g w.heap.size 0) w' wv ws l :=
 ⟨((h.row.mono (M':=fun k=>tg g 10 k∧k<w.heap.size) (fun k hk h=>⟨h,hk⟩)).le hl).mono (fun k _ e=>(Az k e.2).trans e.1),h.pd.imp fun x y _ _ hp=>hp.mv (S:=fun _=>False) (Fp.of_le hl) (fun _ h=>h.elim) Az,h.np,h.nc⟩
theorem EL (h:Bg g w c X C) (n:Int) (id:Nat) (hw:C.waits.length≤1000) (hcl:∀ wt∈C.waits,wt.calls.length≤1000) (tx:Value) (b3:Value) {R:Ending→World→Prop} (hfd:Calls Tryz.prog 57 #[.pointer (some ⟨X.sn,0,none⟩),.int .u64 id] w (Ax w (.tuple #[tx,.bool false,b3]))) (HR:Hd (R=DM g w c X (C.againW n id))) :
  Calls Tryz.prog 58 #[.pointer (some ⟨c,0,none⟩),.int .i64 n,.int .u64 id] w R:=by
 have HFD:=Aa hfd
 have k12:w.cell? ⟨c,12,none⟩=some (.pointer (some ⟨X.sn,0,none⟩)):=Ae h.hc 12
 obtain⟨ws,hws⟩:=h.wt
 have HWS:=Aa hws
 obtain⟨Aw,cw,hwv⟩:=hws.row.slice
 rw[List.length_map,hws.pd.len] at hwv
 have HWV:=Aa hwv
 have H0:=Aa h
 have HCL:=Aa hcl
 have k23:w.cell? ⟨c,23,none⟩=some (.slice Aw C.waits.length cw):=by rw[← hwv];exact Ae h.hc 23
 clear h hcl hfd hws hwv
 go_enter Tryz.func58,Tryz.ntmps58
 go_wp2_with fail
 go_step3
 go_wp2_with fail
 refine HFD.out.mono ?_
 rintro en w2 ⟨rfl,hb⟩
 have HL2:=Aa (Le.mk hb)
 have k23':=(Le.mk hb).cell k23
 clear hb k12 k23 HFD
 go_wp2_with fail
 go_step3
 go_wp2_with fail
 clear k23'
 go_loopw [43] (fun i wr=>∃ k:Nat,k≤C.waits.length∧i=.int .i64 k∧Hd (∀ (j:Nat) (u:Wt),j<k→C.waits[j]?=some u→u.id≠id)∧Hd (Le w wr)) (fun i _=>C.waits.length - (intOf i).toNat)
 case atStart=>exact⟨0,Nat.zero_le _,rfl,Aa (fun j u hj=>by omega),HL2⟩
 case round =>
  obtain⟨k,hk,rfl,HNO,HL⟩:=hrel
  rcases Nat.lt_or_ge k C.waits.length with hlt | hge
  ·have hltI:(k:Int)<(C.waits.length:Int):=by omega
   have q1:IntKind.i64.wrap ((k:Int)+1)=((k+1:Nat):Int):=by rw[IntWalk.i64_in _ (by omega)];simp
   have e0:=List.getElem?_eq_getElem hlt
   have hkw:k<ws.length:=by rw[HWS.out.pd.len];exact hlt
   have e1:=List.getElem?_eq_getElem hkw
   obtain⟨hp,hgp,hcv⟩:=HWS.out.pd.at_ k _ _ e1 e0
   have hcw:=HCL.out _ (List.mem_of_getElem? e0)
   obtain⟨gb,o,cap,hv1,hcell⟩:=HWS.out.row.at1 (by intro e;have:=congrArg List.length e;simp at this;rw[this] at hkw;simp at hkw)
   have kc:=hcell k _ _ (by rw[List.getElem?_map,e1];rfl) (show (pV (ws[k]).1)[0]?=some _ from rfl)
   rw[HWV.out] at hv1
   injection hv1 with hA _ _
   have E0:=Aa e0
   have E1:=Aa e1
   have HP:=Aa hp
   have HGP:=Aa hgp
   have HCV:=Aa hcv
   clear e0 e1 hp hgp hcv hcell
   rw[hA]
   clear hA
   generalize C.waits[k]=wt at *
   generalize ws[k]=x at *
   obtain⟨p,cv⟩:=x
   obtain⟨Ac,cc,hcvv,_,_,_⟩:=HCV.out.cells
   rw[List.length_map] at hcvv
   dsimp only at hcvv HP HGP HCV kc
   subst hcvv
   have kc':=HL.out.cell kc
   have hpw:=Aa (HL.out.heap HP.out)
   have kp0:=Af hpw.out 0 (.int .u64 wt.id) rfl wr (Le.refl _)
   have kp2:=Af hpw.out 2 (.slice Ac wt.calls.length cc) rfl wr (Le.refl _)
   clear kc
   by_cases hid:wt.id=id
   ·have z1:((wt.id:Int) !=(id:Int))=false:=by rw[bne_eq_false_iff_eq];omega
    have HWO:=Aa (waitOf_at E0.out hid HNO.out)
    have HID:=Aa hid
    have hwlt:C.waitOf id<C.waits.length:=by rw[HWO.out];exact hlt
    have hgd:C.waits.getD (C.waitOf id) wt0=wt:=by rw[HWO.out,List.getD,E0.out,Option.getD_some]
    by_cases h8:8<wt.calls.length
    ·have z2:((wt.calls.length:Int)>8):=by omega
     have HE:=Aa (show C.againW n id=(C,[⟨n,id,20⟩]) by rw[Ct.againW,if_pos hwlt,hgd,if_pos h8])
     clear hid hwlt hgd h8
     go_wp2_with fail
     rw[HR.out,HE.out]
     exact DM.one H0.out HL.out ⟨n,id,20⟩
    ·have z2:¬ (8:Int)<(wt.calls.length:Int):=by omega
     have HE:=Aa (show C.againW n id=({ C with waits:=C.waits.set k ⟨wt.id,wt.epoch,wt.calls++[n]⟩ },[]) by rw[Ct.againW,if_pos hwlt,hgd,if_neg h8,HWO.out])
     clear hid hwlt hgd h8
     have HCM:=Aa ((HCV.out.mono (M':=fun kk=>tg g 10 kk∧kk<w.heap.size) (fun kk hk h=>⟨h,hk⟩)).le HL.out)
     go_wp2_with (first | (refine Br (v:=.slice Ac wt.calls.length cc) (u:=.slice (some ⟨wr.heap.size,0,none⟩) 1 1) (x:=Hu n) rfl slInt (.tmp 65) (.tmp 67) rfl HCM.out ((Le.refl _).alloc _) rfl rfl (BsF.new (Hu n) _ (fun k hk=>HCM.out.lt hk)) rfl (by simp[Hu,Value.oneCell']) (by rw[List.length_map];omega) (by omega) ?_;intro v' w4 h1 h2;have HAP:=Aa h1;have HP4:=Aa (h1.heap HCM.out hpw.out (by decide));have H1C:=Aa (show v'.oneCell'=true by obtain⟨A3,cap3,e3,_,_⟩:=BF h1.own;rw[e3];rfl);clear h1 h2) | (refine Ao rfl 76 (.tmp 70) (.tmp 68) rfl [.int .u64 wt.id,.int .u64 wt.epoch] (v:=_) (old:=.slice Ac wt.calls.length cc) (post:=[]) rfl rfl (by kernel_rfl) H1C.out HP4.out ?_;intro w5 h5 hg5;have H5:=Aa h5;have HG5:=Aa hg5;clear h5 hg5))
     rw[HR.out,HE.out]
     have hf:Fp (fun k=>g k=10) w w5:=(Fp.of_le HL.out).trans (((HAP.out.fp HCM.out).mono (fun k hk=>hk.1)).trans (Fp.of_grown HG5.out HGP.out))
     have hi:=(HWS.out.re0 HL.out).push (n0:=w.heap.size) (n:=n) (w5:=w5) (k:=k) (fun kk hkk=>AM hkk) (fun kk _ he=>by
      rcases Nat.lt_or_ge kk w.heap.size with h | h
      ·exact h
      ·rw[AM h] at he;cases he) HL.out.size E1.out E0.out HAP.out HG5.out H5.out
     rw[gNew_two] at hi
     exact⟨_,_,rfl,AA.nil,H0.out.setWaits hf (fun k hk=>hk) Az _ hi⟩
   ·have z1:((wt.id:Int) !=(id:Int))=true:=by rw[bne_iff_ne];omega
    have HID:=Aa hid
    clear hid
    go_wp2_with fail
    refine⟨⟨k+1,hlt,by simp,Aa (fun j u hj hu=>?_),HL⟩,by simp only[intOf];omega⟩
    rcases Nat.lt_or_ge j k with h | h
    ·exact HNO.out j u h hu
    ·obtain rfl:j=k:=by omega
     rw[E0.out] at hu
     injection hu with hu
     subst hu
     exact HID.out
  ·have hgeI:¬ (k:Int)<(C.waits.length:Int):=by omega
   have HE:=Aa (show C.againW n id=(C,[⟨n,id,20⟩]) by rw[Ct.againW,if_neg (Gd (fun j u hj hu=>HNO.out j u (by omega) hu))])
   go_wp2_with fail
   rw[HR.out,HE.out]
   exact DM.one H0.out HL.out ⟨n,id,20⟩
theorem ctAgain (h:Bg g w c X C) (n:Int) (id:Nat) (hid:id<18446744073709551616) (hbs:∀ b,C.seen.find id=some (some b)→b.length≤1000) (hw:C.waits.length≤1000) (hcl:∀ wt∈C.waits,wt.calls.length≤1000) :
  Calls Tryz.prog 58 #[.pointer (some ⟨c,0,none⟩),.int .i64 n,.int .u64 id] w (DM g w c X (C.again n id)):=by
 obtain⟨mp,ovv,hdd⟩:=h.sn
 have HFD:=Aa (ddFind hdd id hid)
 have k12:w.cell? ⟨c,12,none⟩=some (.pointer (some ⟨X.sn,0,none⟩)):=Ae h.hc 12
 have H0:=Aa h
 have HBS:=Aa hbs
 have HCL:=Aa hcl
 obtain⟨R,hR⟩:∃ R,R=DM g w c X (C.again n id):=⟨_,rfl⟩
 rw[← hR]
 have HR:=Aa hR
 clear hR h hdd hbs hcl
 cases hf:C.seen.find id with
 | some a =>
  cases a with
  | some b =>
   have HBL:=Aa (HBS.out b hf)
   have HE:=Aa (show C.again n id=(C,[⟨n,id,toldE b⟩]) by unfold Ct.again;rw[hf])
   rw[hf] at HFD
   have HFD2:=Aa (show Calls Tryz.prog _ _ w (Ax w (.tuple #[.string (str b),.bool true,.bool true])) from HFD.out)
   clear hf HFD
   go_enter Tryz.func58,Tryz.ntmps58
   go_wp2_with fail
   go_step3
   go_wp2_with fail
   refine HFD2.out.mono ?_
   rintro en w2 ⟨rfl,hb⟩
   have HL2:=Aa (Le.mk hb)
   clear hb k12
   go_wp2_with (refine wpl_bytes b rfl (.tmp 27) rfl Tryz.underlying9 Tryz.underlying25 Tryz.underlying5 rfl ?_;intro A cap w3 hr hl;have HRB:=Aa hr;have HL3:=Aa (HL2.out.trans hl);clear hr hl)
   refine (told_any b A b.length cap w3 HRB.out (by have:=HBL.out;omega)).mono ?_
   rintro en w4 ⟨rfl,hb⟩
   have HL4:=Aa (HL3.out.trans (Le.mk hb))
   clear hb HRB
   go_wp2_with fail
   rw[HR.out,HE.out,← toldEn_eq]
   exact DM.one H0.out HL4.out ⟨n,id,(DL b:Int)⟩
  | none =>
   rw[hf] at HFD
   have hE:C.again n id=C.againW n id:=by unfold Ct.again;rw[hf];rfl
   rw[hE] at HR
   exact EL H0.out n id hw HCL.out _ _ HFD.out HR
 | none =>
  rw[hf] at HFD
  have hE:C.again n id=C.againW n id:=by unfold Ct.again;rw[hf];rfl
  rw[hE] at HR
  exact EL H0.out n id hw HCL.out _ _ HFD.out HR
end
theorem arAt_map (l:List (ASl (Nat×Nat))) (i:Nat):Ed (l.map slP) i=slP (Ed l i):=by
 rw[Ed,Ed,List.getD,List.getD,List.getElem?_map]
 cases l[i]?<;>rfl
section
variable {g:Nat→Nat} {w:World} {c:Nat} {X:CtX} {C:Ct (Nat×Nat)}
end
end Go.Proofs.YtmcndlofaanjiaaGreat
