/- Texts of one claim, laid together: Base OctL -/
import Derived.Test.YtmcndlofaanjiaaGreatRows
import Derived.WalkKit
import Derived.WalkSpells
import Derived.WalkLawsBesides
import Derived.Maps.AppendAt
import Derived.Lib.Strings
/- Words of memory for this seat: what a slice value reads as,what a world keeps. Nothing of a program stands here. -/
namespace Go.Proofs.YtmcndlofaanjiaaGreat
open Go.RowKit
set_option linter.unusedVariables false
set_option maxRecDepth 100000
set_option maxHeartbeats 8000000
structure Hd (p:Prop):Prop where
 out:p
theorem Aa {p:Prop} (h:p):Hd p:=⟨h⟩
abbrev Rd (α:Type):=World→α→List Value→Prop
def RSl {α:Type} (size:Nat) (R:Rd α) (w:World) (l:List α) (v:Value):Prop :=
 ∃ A cap,v=.slice A l.length cap∧l.length≤cap∧(l≠[]→∃ b off,A=some ⟨b,off,none⟩ ∧
  ∀ i (h:i<l.length),∃ cs:List Value,cs.length=size∧(∀ j,j<size→w.cell? ⟨b,off+i*size+j,none⟩=cs[j]?)∧R w l[i] cs)
def Ie {α:Type} (R:Rd α):Prop:=∀ w w' x cs,R w x cs→Below w.heap.size w w'→R w' x cs
theorem B2 {w:World} {a:Addr} {v:Value} (h:w.cell? a=some v):a.block<w.heap.size:=World.block_lt_of_cell? w a h
theorem RSl.keep {α:Type} {size:Nat} {R:Rd α} (hR:Ie R) {w w':World} {l:List α} {v:Value} (h:RSl size R w l v) (hb:Below w.heap.size w w'):RSl size R w' l v:=by
 obtain⟨A,cap,hv,hc,hr⟩:=h
 refine⟨A,cap,hv,hc,fun hne=>?_⟩
 obtain⟨b,off,hA,hi⟩:=hr hne
 refine⟨b,off,hA,fun i h=>?_⟩
 obtain⟨cs,hl,hcell,hRi⟩:=hi i h
 refine⟨cs,hl,fun j hj=>?_,hR _ _ _ _ hRi hb⟩
 have h0:=hcell j hj
 have:(cs[j]?)=some (cs[j]'(by omega)):=List.getElem?_eq_getElem (by omega)
 rw[← h0]
 exact hb.cell (p:=⟨b,off+i*size+j,none⟩) (B2 (h0.trans this))
theorem RSl.alloc {α:Type} {size:Nat} {R:Rd α} (hR:Ie R) {w:World} {l:List α} {v:Value} (h:RSl size R w l v) (o:Obj):RSl size R (w.alloc o) l v :=
 h.keep hR ((Below.refl _ _).alloc (Nat.le_refl _) o)
theorem RSl.nil {α:Type} {size:Nat} {R:Rd α} {w:World}:RSl size R w [] (.slice none 0 0):=⟨none,0,rfl,by simp,fun h=>absurd rfl h⟩
def RU8:Rd UInt8:=fun _ n cs=>cs=[.int .u8 n.toNat]
theorem BS:Ie RU8:=fun _ _ _ _ h _=>h
def u8s (l:List UInt8):List Value:=l.map fun b=>.int .u8 b.toNat
theorem Ib (a b:List UInt8):u8s (a++b)=u8s a++u8s b:=List.map_append
theorem EM (a:List UInt8):(u8s a).length=a.length:=List.length_map _
theorem u8s_one {l:List UInt8}:∀ u∈u8s l,u.oneCell'=true:=by
 intro u hu
 simp only[u8s,List.mem_map] at hu
 obtain⟨b,_,rfl⟩:=hu
 rfl
theorem DA {w:World} {base e n:Nat} {v:Value} {l:List UInt8} (h:w.ownsRow base e 1 v n (u8s l)):RSl 1 RU8 w l v:=by
 have hl:=h.1
 simp only[EM,Nat.mul_one] at hl
 subst hl
 rcases h.2 with ⟨rfl,hn⟩ | ⟨g,cap,cur,rfl,_,hh,hnc,_,hcs,ht⟩
 ·exact⟨none,0,by rw[hn],by omega,fun hne=>absurd (List.eq_nil_of_length_eq_zero hn) hne⟩
 ·refine⟨_,cap,rfl,hnc,fun _=>⟨g,0,rfl,fun i hi=>⟨[.int .u8 l[i].toNat],rfl,fun j hj=>?_,rfl⟩⟩⟩
  obtain rfl:j=0:=by omega
  have hc:=h.cells (g:=g) rfl i (.int .u8 l[i].toNat) (by simp[u8s,hi])
  have hadd:(⟨g,0,none⟩:Addr).add i=⟨g,0+i*1+0,none⟩:=by unfold Addr.add;split<;>simp_all
  rw[hadd] at hc
  rw[hc];rfl
theorem or_bytes (x y:Nat) (hx:x<72057594037927936) (hy:y<256):bits .or .u64 ((x:Int)*256) (y:Int)=((x*256+y:Nat):Int):=by
 have e:(x:Int)*256=((x*256:Nat):Int):=by omega
 rw[e,bits_or_u64_nat _ _ (by omega) (by omega),show x*256=x <<< 8 by rw[Nat.shiftLeft_eq],← Nat.shiftLeft_add_eq_or_of_lt (by omega)]
structure SlT (P:Program) (t e:TypeId) (z:Value) (size bytes:Nat):Prop where
 under:P.underlying t=some (.slice e)
 info:(P.info? e).map (fun i=>(i.zero,i.size,i.bytes))=some (some z,size,bytes)
 zs:z.cells.size=size
 pos:0<size
def Bk (w:World) (A:Option Addr) (xs:List Value):Prop :=
 xs≠[]→∃ b off,A=some ⟨b,off,none⟩∧∀ j u,xs[j]?=some u→w.cell? ⟨b,off+j,none⟩=some u
theorem BG (b off j:Nat):(⟨b,off,none⟩:Addr).add j=⟨b,off+j,none⟩:=by
 unfold Addr.add;split<;>simp_all
theorem C9 {P:Program} {w:World} {base:Nat} {t ty e:TypeId} {i:TypeInfo} {size:Nat} (ht:P.underlying t=some (.slice e)) (hi:P.info? e=some i)
  {v:Value} {n:Nat} {xs:List Value} (hown:w.ownsRow base e size v n xs) (A:Option Addr) (c:Nat) (hs:i.size=size) :
  (Builtin.append_ #[t,t] ty #[v,.slice A 0 c]).run P w=.ok v w:=by
 rcases hown.2 with ⟨rfl,rfl⟩ | ⟨g,cap,cur,rfl,_,_,hnc,_⟩<;>rcases A with _ | ad
 ·simp[Builtin.append_,run_underlying ht,sizeOf,typeInfo,hi,Builtin.lenOf,Builtin.firstCells]
 ·simp[Builtin.append_,run_underlying ht,sizeOf,typeInfo,hi,Builtin.lenOf,Builtin.firstCells,loadCells,loadCellsFrom]
 ·simp[Builtin.append_,run_underlying ht,sizeOf,typeInfo,hi,Builtin.lenOf,Builtin.firstCells,hnc,storeCells]
 ·simp[Builtin.append_,run_underlying ht,sizeOf,typeInfo,hi,Builtin.lenOf,Builtin.firstCells,hnc,storeCells,loadCells,loadCellsFrom]
theorem run_app {P:Program} {w:World} {base:Nat} {t ty e:TypeId} {z:Value} {size bytes:Nat} (T:SlT P t e z size bytes)
  {v:Value} {n:Nat} {xs:List Value} (hown:w.ownsRow base e size v n xs) {A:Option Addr} {m c:Nat} {news:List Value} (hl:news.length=m*size) (hc:Bk w A news)
  (h1:∀ u∈news,u.oneCell'=true) (hbytes:(n+m)*bytes≤140737488355328) (h63:n+m≤9223372036854775807) (hbase:base≤w.heap.size) :
  ∃ v' w',(Builtin.append_ #[t,t] ty #[v,.slice A m c]).run P w=.ok v' w'∧w'.ownsRow base e size v' (n+m) (xs++news)∧w.grownBy w' v.ownBlock ∧
   (v'.ownBlock=v.ownBlock∨v'.ownBlock=some w.heap.size):=by
 obtain⟨i,hi,hz,hsz,hby⟩:=info_parts T.info
 by_cases hm:m=0
 ·subst hm
  have hn:news=[]:=List.eq_nil_of_length_eq_zero (by simpa using hl)
  subst hn
  exact⟨v,w,C9 T.under hi hown A c hsz,by simpa using hown,World.grownBy.refl w _,.inl rfl⟩
 ·have hne:news≠[]:=by
   intro e;rw[e] at hl
   have:=Nat.mul_pos (Nat.pos_of_ne_zero hm) T.pos
   simp at hl;omega
  obtain⟨b,off,rfl,hcell⟩:=hc hne
  obtain⟨v',w',hr,h2,h3,_,h5⟩:=run_append_own_at (P:=P) w base t ty e i z size bytes T.under hi hz hsz hby T.zs T.pos v n xs hown ⟨b,off,none⟩ m c news hl
   (fun j u hu=>by rw[BG];exact hcell j u hu) h1 (by simp only[maxLen];omega) hbytes hbase
  exact⟨v',w',hr,h2,h3,h5⟩
theorem wp_app {P:Program} {o:Oper} {a:Act} {w:World} {K:Act→World→Prop} {Q:Exit→Act→World→Prop} {base:Nat} {t e:TypeId} {z:Value} {size bytes:Nat} (T:SlT P t e z size bytes)
  (s x:Operand) (ho:o.op=.call { callee:=.builtin .append,args:=#[s,x],argTypes:=#[t,t] })
  {v:Value} {n:Nat} {xs:List Value} (hown:w.ownsRow base e size v n xs) (hs:a.eval s=v) {A:Option Addr} {m c:Nat} (hx:a.eval x=.slice A m c) {news:List Value} (hc:Bk w A news) (hl:news.length=m*size)
  (h1:∀ u∈news,u.oneCell'=true) (hbytes:(n+m)*bytes≤140737488355328) (h63:n+m≤9223372036854775807) (hbase:base≤w.heap.size)
  (h:∀ v' w',w'.ownsRow base e size v' (n+m) (xs++news)→w.grownBy w' v.ownBlock→(v'.ownBlock=v.ownBlock∨v'.ownBlock=some w.heap.size)→K (a.put o.dst v') w'):o.wp P a w K Q:=by
 obtain⟨v',w',hr,h2,h3,h4⟩:=run_app (P:=P) (ty:=o.type) T hown hl hc h1 hbytes h63 hbase
 unfold Oper.wp execOp
 simp only[ho,resolve,invoke,builtin,Sem.run_bind,Sem.run_pure,Result.andThen_ok,List.map_toArray,List.map_cons,List.map_nil,hs,hx]
 have hr':Sem.run P (Builtin.append_ #[t,t] o.type #[v,Value.slice A m c]) w=.ok v' w':=hr
 rw[hr']
 exact h v' w' h2 h3 h4
theorem Ci {P:Program} {ops:Array Oper} {rest:List Oper} {o:Oper} {a:Act} {w:World} {Q:Exit→Act→World→Prop} (hgd:o.guard=none) {base:Nat} {t e:TypeId} {z:Value} {size bytes:Nat} (T:SlT P t e z size bytes)
  (s x:Operand) (ho:o.op=.call { callee:=.builtin .append,args:=#[s,x],argTypes:=#[t,t] })
  {v:Value} {n:Nat} {xs:List Value} (hown:w.ownsRow base e size v n xs) (hs:a.eval s=v) {A:Option Addr} {m c:Nat} (hx:a.eval x=.slice A m c) {news:List Value} (hc:Bk w A news) (hl:news.length=m*size)
  (h1:∀ u∈news,u.oneCell'=true) (hbytes:(n+m)*bytes≤140737488355328) (h63:n+m≤9223372036854775807) (hbase:base≤w.heap.size)
  (h:∀ v' w',w'.ownsRow base e size v' (n+m) (xs++news)→w.grownBy w' v.ownBlock→(v'.ownBlock=v.ownBlock∨v'.ownBlock=some w.heap.size)→wpList P ops Q rest (a.put o.dst v') w'):wpList P ops Q (o::rest) a w :=
 wpList_plain hgd fun _ hK=>wp_app T s x ho hown hs hx hc hl h1 hbytes h63 hbase fun v' w' h2 h3 h4=>hK _ _ (h v' w' h2 h3 h4)
theorem AQ {B:Nat} {w:World} {o:Obj} (h:B≤w.heap.size):B≤(w.alloc o).heap.size:=by simp;omega
theorem Dq (w:World) (l:List Value) (t:TypeId):Bk (w.alloc (.cells l.toArray t)) (some ⟨w.heap.size,0,none⟩) l:=by
 refine fun _=>⟨w.heap.size,0,rfl,fun j u hu=>?_⟩
 rw[Nat.zero_add,cell_of_row _ w.heap.size j l.toArray t (0,0) (heap_alloc_new w _)]
 simpa using hu
theorem Cx {w:World} {l:List UInt8} {A:Option Addr} {n cap:Nat} (h:RSl 1 RU8 w l (.slice A n cap)):Bk w A (u8s l):=by
 intro hne
 obtain⟨A',cap',hv,_,hr⟩:=h
 injection hv with hA _ _
 obtain⟨b,off,hA',hi⟩:=hr (by rintro rfl;exact hne rfl)
 refine⟨b,off,hA.trans hA',fun j u hu=>?_⟩
 have hj:j<l.length:=by
  have:=(List.getElem?_eq_some_iff.1 hu).1
  rwa [EM] at this
 obtain⟨cs,_,hc,hR⟩:=hi j hj
 have:=hc 0 (by omega)
 simp only[RU8] at hR
 subst hR
 simp[u8s,hj] at hu
 subst hu
 simpa using this
theorem Ha {α β:Type} (f:α→List β) (size:Nat):∀ (l:List α) (_:∀ x∈l,(f x).length=size) (i:Nat) (h:i<l.length) (j:Nat),j<size→(l.flatMap f)[i*size+j]?=(f l[i])[j]?
 | [],_,i,h,_,_=>by simp at h
 | x::l,hf,i,h,j,hj=>by
  have hx:=hf x (by simp)
  rcases i with _ | i
  ·simp only[List.flatMap_cons,Nat.zero_mul,Nat.zero_add,List.getElem_cons_zero]
   rw[List.getElem?_append_left (by omega)]
  ·simp only[List.flatMap_cons,List.getElem_cons_succ]
   rw[List.getElem?_append_right (by rw[hx,Nat.succ_mul];omega),hx,show (i+1)*size+j - size=i*size+j by rw[Nat.succ_mul];omega]
   exact Ha f size l (fun y hy=>hf y (by simp[hy])) i (by simpa using h) j hj
theorem DF {α:Type} {size:Nat} {R:Rd α} {w:World} {l:List α} {enc:α→List Value} {A:Option Addr} {n cap:Nat} (hn:n=l.length) (hcap:n≤cap) (hs:∀ x∈l,(enc x).length=size) (hR:∀ x∈l,R w x (enc x)) (hp:0<size)
  (hc:Bk w A (l.flatMap enc)):RSl size R w l (.slice A n cap):=by
 subst hn
 refine⟨A,cap,rfl,hcap,fun hne=>?_⟩
 have hne':l.flatMap enc≠[]:=by
  rcases l with _ | ⟨x,l⟩
  ·exact absurd rfl hne
  ·intro e
   have h1:=hs x (by simp)
   simp at e
   rw[e.1] at h1;simp at h1;omega
 obtain⟨b,off,hA,hg⟩:=hc hne'
 refine⟨b,off,hA,fun i hi=>⟨enc l[i],hs _ (List.getElem_mem hi),fun j hj=>?_,hR _ (List.getElem_mem hi)⟩⟩
 have h1:=Ha enc size l hs i hi j hj
 have h2:(enc l[i])[j]?=some ((enc l[i])[j]'(by rw[hs _ (List.getElem_mem hi)];exact hj)):=List.getElem?_eq_getElem _
 rw[h2] at h1 ⊢
 rw[Nat.add_assoc]
 exact hg _ _ h1
theorem BF {w:World} {base:Nat} {e:TypeId} {size n:Nat} {v:Value} {xs:List Value} (h:w.ownsRow base e size v n xs) :
  ∃ A cap,v=.slice A n cap∧n≤cap∧Bk w A xs:=by
 rcases h.2 with ⟨rfl,rfl⟩ | ⟨g,cap,cur,rfl,_,hh,hnc,_,hcs,ht⟩
 ·refine⟨none,0,rfl,Nat.le_refl _,fun hne=>?_⟩
  have h1:=h.1
  simp at h1
  exact absurd h1 hne
 ·refine⟨_,cap,rfl,hnc,fun _=>⟨g,0,rfl,fun j u hu=>?_⟩⟩
  have:=h.cells (g:=g) rfl j u hu
  rwa [BG] at this
theorem EO {w:World} {base:Nat} {e:TypeId} {size n:Nat} {v:Value} {xs:List Value} (h:w.ownsRow base e size v n xs) {g:Nat} {cs:Array Value} {t:TypeId} {fr:Nat×Nat} (hg:w.heap[g]?=some (.cells cs t fr)) (hne:e≠t) :
  v.ownBlock≠some g:=by
 rcases h.2 with ⟨rfl,_⟩ | ⟨g',cap,cur,rfl,_,hh,_⟩
 ·simp[Value.ownBlock]
 ·intro he
  simp only[Value.ownBlock,Option.some.injEq] at he
  subst he
  rw[hg] at hh
  injection hh with hh
  injection hh with _ ht _
  exact hne ht.symm
theorem Ai {w w':World} {row:Option Nat} (hg:w.grownBy w' row) {k:Nat} {o:Obj} (h:w.heap[k]?=some o) (hne:row≠some k):w'.heap[k]?=some o :=
 (hg.block k (Array.getElem?_eq_some_iff.1 h).1 (fun e=>hne e.symm)).trans h
theorem CJ {B:Nat} {w w':World} (hb:Below B w w') {k:Nat} {o:Obj} (h:w.heap[k]?=some o) (hk:k<B):w'.heap[k]?=some o:=(hb.block k hk).trans h
theorem heap_alloc {w:World} {k:Nat} {o o':Obj} (h:w.heap[k]?=some o):(w.alloc o').heap[k]?=some o:=(Below.heap_alloc w o' k (Array.getElem?_eq_some_iff.1 h).1).trans h
theorem Ae {w:World} {g:Nat} {cs:Array Value} {t:TypeId} {fr:Nat×Nat} (h:w.heap[g]?=some (.cells cs t fr)) (i:Nat):w.cell? ⟨g,i,none⟩=cs[i]?:=cell_of_row w g i cs t fr h
theorem Ay {w:World} {g:Nat} {cs:Array Value} {t:TypeId} (h:w.heap[g]?=some (.cells cs t (0,0))) (i:Nat):w.frozen? ⟨g,i,none⟩=false:=by simp[World.frozen?,h]
theorem GA {B:Nat} {a w w':World} {v:Value} {base e size n} {xs:List Value} (h:Below B a w) (hown:w.ownsRow base e size v n xs) (hg:w.grownBy w' v.ownBlock) (hB:B≤base) (hw:B≤w.heap.size):Below B a w' :=
 h.grown hg hw fun k hk=>Nat.le_trans hB (hown.lt k hk).1
theorem AT {B:Nat} {a w w':World} {p:Nat} (h:Below B a w) (hg:w.grownBy w' (some p)) (hp:B≤p) (hB:B≤w.heap.size):Below B a w' :=
 h.grown hg hB (fun k hk=>by injection hk with hk;omega)
def str (l:List UInt8):ByteArray:=⟨l.toArray⟩
@[go_sem] theorem str_size (l:List UInt8):(str l).size=l.length:=by simp[str,ByteArray.size]
@[go_sem] theorem str_list (l:List UInt8):(str l).toList=l:=ByteArray.toList_mk l
theorem str_of (s:ByteArray):s=str s.toList:=by
 rw[ByteArray.toList_eq]
 simp[str]
theorem str_ext {a b:ByteArray} (h:a.toList=b.toList):a=b:=by rw[str_of a,str_of b,h]
@[go_sem] theorem Gx (l:List UInt8) (a b:Nat):(str l).extract a b=str ((l.drop a).take (b - a)):=by
 apply str_ext
 rw[ByteArray.toList_eq,Lib.extract_data,str_list]
 simp[str]
@[go_sem high] theorem str_extract_end (l:List UInt8) (a:Nat):(str l).extract a l.length=str (l.drop a):=by
 rw[Gx,List.take_of_length_le (by simp)]
@[go_sem] theorem str_get (l:List UInt8) (i:Nat) (h:i<(str l).size):(str l)[i]=l[i]'(by simpa[str_size] using h):=by
 simp[str];rfl
theorem conv_str {P:Program} (w:World) (src dst e:TypeId) (A:Option Addr) (n cap:Nat) (l:List UInt8) (hs:P.underlying src=some (.slice e)) (he:P.underlying e=some (.int .u8)) (hd:P.underlying dst=some .string)
  (h:RSl 1 RU8 w l (.slice A n cap)):(convert src dst (.slice A n cap)).run P w=.ok (.string (str l)) w:=by
 have hc:=Cx h
 obtain⟨A',cap',hv,_,hr⟩:=h
 injection hv with e1 e2 e3
 subst e1 e2 e3
 by_cases hl:l=[]
 ·subst hl
  rw[run_convert_bytes_string w src dst e A _ cap hs he hd]
  rcases A with _ | ad<;>simp[Conv.bytesToString,loadCells,loadCellsFrom,str]<;>rfl
 ·obtain⟨b,off,rfl,hi⟩:=hc (by simpa[u8s] using hl)
  exact run_convert_bytes_back w src dst e _ cap l hs he hd (fun j hj=>by rw[BG];exact hi j _ (by simp[u8s,hj]))
def Ey (n:Int):Bool:=decide (1≤n)&&decide (n≤8)
def bAt (x s i:Nat):UInt8:=UInt8.ofNat (x / 2 ^ (8*(s - 1 - i)))
def be (x s:Nat):List UInt8:=(List.range s).map (bAt x s)
def beTo (x s i:Nat):List UInt8:=(List.range i).map (bAt x s)
def D3 (p:Nat×Int):List UInt8:=if Ey p.2 then be p.1 p.2.toNat else []
def Ez (l:List (Nat×Int)):List UInt8:=l.flatMap D3
theorem be_length (x s:Nat):(be x s).length=s:=by simp[be]
theorem Gc (x s i:Nat):(beTo x s i).length=i:=by simp[beTo]
theorem beTo_succ (x s i:Nat):beTo x s (i+1)=beTo x s i++[bAt x s i]:=by simp[beTo,List.range_succ]
theorem E7 (p:Nat×Int):(D3 p).length≤8:=by
 unfold D3;split
 ·rename_i h;simp[Ey] at h;rw[be_length];omega
 ·simp
theorem Ge (a b:List (Nat×Int)):Ez (a++b)=Ez a++Ez b:=List.flatMap_append
theorem puts_cons (p:Nat×Int) (b:List (Nat×Int)):Ez (p::b)=D3 p++Ez b:=List.flatMap_cons
theorem BJ (l:List (Nat×Int)):(Ez l).length≤8*l.length:=by
 induction l with
 | nil=>simp[Ez]
 | cons p l ih=>rw[puts_cons];have:=E7 p;simp;omega
theorem puts_take (l:List (Nat×Int)) (k:Nat) (h:k<l.length):Ez (l.take (k+1))=Ez (l.take k)++D3 l[k]:=by
 rw[List.take_succ_eq_append_getElem h,Ge];simp[Ez]
def val (l:List UInt8):Nat:=l.foldl (fun x b=>x*256+b.toNat) 0
theorem Hc (l:List UInt8) (b:UInt8):val (l++[b])=val l*256+b.toNat:=by simp[val]
theorem val_lt (l:List UInt8):val l<256 ^ l.length:=by
 suffices h:∀ n (l:List UInt8),l.length=n→val l<256 ^ n from h _ l rfl
 intro n
 induction n with
 | zero=>intro l h;obtain rfl:=List.eq_nil_of_length_eq_zero h;simp[val]
 | succ n ih =>
  intro l h
  have hne:l≠[]:=by intro e;simp[e] at h
  obtain⟨l',b,rfl⟩:∃ l' b,l=l'++[b]:=⟨l.dropLast,l.getLast hne,(List.dropLast_concat_getLast hne).symm⟩
  rw[Hc]
  have h1:=ih l' (by simpa using h)
  have h2:=b.toNat_lt
  rw[Nat.pow_succ]
  omega
def cut (l:List UInt8) (e n:Int) (is:Bool):List UInt8×Int×List UInt8 :=
 if e≠0 then (l,e,[]) else if is=false then (l,1,[]) else if (l.length:Int)<n then (l,10,[]) else (l.drop n.toNat,0,l.take n.toNat)
theorem cut_left (l:List UInt8) (e n:Int) (is:Bool):(cut l e n is).1.length≤l.length:=by
 unfold cut
 repeat' split
 all_goals simp
theorem bAt_cell (x s i:Nat):(Value.int .u8 ((x:Int) / 2 ^ (8*(s - 1 - i))%256))=.int .u8 (bAt x s i).toNat:=by
 have:((x:Int) / 2 ^ (8*(s - 1 - i))%256)=((x / 2 ^ (8*(s - 1 - i))%256:Nat):Int):=by rw[Int.natCast_emod,Int.natCast_ediv,Int.natCast_pow];rfl
 rw[this,bAt,UInt8.toNat_ofNat']
end Go.Proofs.YtmcndlofaanjiaaGreat
