/- Small words that all of this seat's walks share: what a call gives back while nothing that was there turns. No statement of its own. append onto a row of the call's own, from whatever source: what the new slice owns, where it lies, and that the old slice still reads as it did. A command, opened; its cells. Rows of bytes that the call itself made: one store; make. Rows of bytes that a call hands on: what a function that appends to its argument gives back. The contracts of the library's functions at this dump, laid by the shelf's own tool in plain declarations. The walks of package runes: alone, Count, clean, Beginning, Key. Plain law of the numbers of package num: their forms as lists of bytes, and what is taken of bytes. No program in sight. The walks of package num (wide, Size, Put, Take) and of the document's numbers (package stonecropref01: digits, Put, Take, Same). The walks of num.Take and of the document's numbers (package stonecropref01: Same, digits, Put, Take). The walks of the document's numbers (package stonecropref01: digits, Put, Take), and of the example of package stonecroplaw01. Trees of numbers, texts and lists: what is wrong with one, its form, its size. Plain: no program in sight. Items in memory: which tree a value of type api.Item is; the opening of one that came in. Trees: two that are right have one form just if they are the same; the document's measure. Plain: no program in sight. The append of a text to bytes of the call's own: where the new row lies, and what became of the old one. A number as it is taken: no more than 2^62. Sets of ids, in plain Lean: their order, the set of a list, what is joined; no program in sight. Lists of ids in memory, attributes by value; the opening of those that came in. A region that draws its order, walked by hand: what yields in every world that meets S is taken first, in the order that the text names; a step whose guard does not hold is passed over; a call is carried out where it alone may come up. Plain law of the sums of package crc: the register as a number, its step, that it is linear, and that what isn't nothing stays so. No program in sight. -/
import Derived.Test.YtlolnakeancenaaDoorProg
import Derived.WalkKit
import Derived.WalkSpells
import Derived.WalkLawsBesides
import Derived.Deep.RegionHeld3
import Derived.Deep.DrawnRows
import Derived.Deep.DeepCutAuto
import Derived.Deep.DeepFit
import Derived.Lib.Hide
import Derived.BigQuiet
import Derived.Deep.QuietTactic
import Derived.Maps.AppendAt
import Derived.Deep.AppendLies
import Derived.Deep.RegionLaw
import Derived.Lib.SmallJoins
import Derived.ProofKit
import Derived.ShutString
import Derived.ChangeOld
import Derived.Shelf.Small.Wraps
import Derived.Shelf.Strconv.Itoa0
import Derived.Shelf.Unicode.Decode
import Derived.Shelf.Unicode.DecodeSlow
import Derived.Shelf.Unicode.DecodeAny
import Derived.Lib.OthersKept
import Derived.Lib.BitFns
import Derived.Lib.ConvBytes
import Derived.Lib.AppendStr
namespace Go.Proofs.YtlolnakeancenaaDoor
open Go.RowKit
/-- The call gives v, and nothing that was there has turned. -/
def Gives (w:World) (v:Value) (e:Ending) (w':World):Prop:=e= .returned v∧Below w.heap.size w w'
theorem keeps {W w1 : World} (hb : Below W.heap.size W w1) :
    (∀b o,b<W.heap.size→w1.cell? ⟨b,o,none⟩=W.cell? ⟨b,o,none⟩)∧(∀b o,b<W.heap.size→w1.frozen? ⟨b,o,none⟩=W.frozen? ⟨b,o,none⟩):=
  ⟨fun b o h=>hb.cell (p:=⟨b,o,none⟩) h,fun b o h=>hb.frozen (p:=⟨b,o,none⟩) h⟩
theorem below_call {B:Nat} {w W w1:World} (h:Below B w W) (hb:Below W.heap.size W w1) (hB:B≤W.heap.size):Below B w w1:=h.trans (hb.mono hB)
theorem below_drewN {B:Nat} {a w:World} (h:Below B a w) (n:Nat):Below B a (w.drewN n):=⟨h.os,h.tape,h.output,h.size,h.block⟩
theorem ret_int {k:IntKind} {a b:Int} (h:a=b):Ending.returned (.int k a)= .returned (.int k b):=by rw [h]
theorem frozen_alloc_some (w:World) (a:Addr) (o:Obj) (h:(w.cell? a).isSome=true):(w.alloc o).frozen? a=w.frozen? a:=by
  obtain ⟨u,hu⟩:=Option.isSome_iff_exists.1 h
  exact World.frozen?_alloc_past _ _ _ (World.block_lt_of_cell? w a hu)
/-- A slice of n integers that came in, nil let in: what its elements read as. -/
def Ints (k:IntKind) (w:World) (A:Option Addr) (n:Nat) (zs:List Int):Prop:=
  n≤maxLen∧n≤zs.length∧∀i,i<n→∃ad,A=some ad∧w.cell? (ad.add i)=some (.int k (zs.getD i 0))∧(Lit.int k (zs.getD i 0)).wf=true
theorem Ints.below {k:IntKind} {w w':World} {A:Option Addr} {n:Nat} {zs:List Int} (h:Ints k w A n zs) (hb:Below w.heap.size w w'):Ints k w' A n zs:=
  ⟨h.1,h.2.1,fun i hi=>by
    obtain ⟨ad,e,hc,hw⟩:=h.2.2 i hi
    exact ⟨ad,e,(hb.cell (World.block_lt_of_cell? _ _ hc)).trans hc,hw⟩⟩
theorem cell_keep {W w1:World} {a:Addr} {v:Value} (hb:Below W.heap.size W w1) (h:W.cell? a=some v):w1.cell? a=some v:=
  (hb.cell (World.block_lt_of_cell? _ _ h)).trans h
theorem frozen_keep {W w1:World} {a:Addr} {v:Value} {b:Bool} (hb:Below W.heap.size W w1) (h:W.cell? a=some v) (hf:W.frozen? a=b):w1.frozen? a=b:=
  (hb.frozen (World.block_lt_of_cell? _ _ h)).trans hf
theorem cell_alloc {w:World} {a:Addr} {v:Value} {o:Obj} (h:w.cell? a=some v):(w.alloc o).cell? a=some v:=
  (World.cell?_alloc_lt _ _ _ (World.block_lt_of_cell? _ _ h)).trans h
theorem frozen_alloc {w:World} {a:Addr} {v:Value} {b:Bool} {o:Obj} (h:w.cell? a=some v) (hf:w.frozen? a=b):(w.alloc o).frozen? a=b:=
  (frozen_alloc_some w a o (by simp [h])).trans hf
theorem cell_far {w:World} {a p:Addr} {v u:Value} (h:w.cell? a=some v) (hne:p.block≠a.block):(w.setCell p u).cell? a=some v:=
  (World.cell?_setCell_far w p a u hne).trans h
theorem new_cell (w:World) (c:Array Value) (t:TypeId) (i:Nat) {v:Value} (h:c[i]? =some v):(w.alloc (.cells c t)).cell? ⟨w.heap.size,i,none⟩=some v∧(w.alloc (.cells c t)).frozen? ⟨w.heap.size,i,none⟩=false:=by
  refine ⟨?_,by simp [go_sem]⟩
  rw [World.cell?_alloc_new];exact h
/-- A block that the region itself has laid ahead of a call is still there behind it. -/
theorem new_keep {w w1 : World} {c : Array Value} {t : TypeId} (hb : Below (w.alloc (.cells c t)).heap.size (w.alloc (.cells c t)) w1) (i : Nat) {v : Value} (h : c[i]? = some v) :
    w1.cell? ⟨w.heap.size,i,none⟩=some v∧w1.frozen? ⟨w.heap.size,i,none⟩=false:=
  ⟨cell_keep hb (new_cell w c t i h).1,frozen_keep hb (new_cell w c t i h).1 (new_cell w c t i h).2⟩
/-- Block g is just the cells cs, none frozen. -/
def Blk (w:World) (g:Nat) (t:TypeId) (cs:Array Value):Prop:=w.heap[g]? =some (.cells cs t (0,0))
section
variable {w w':World} {g:Nat} {t:TypeId} {cs:Array Value}
theorem Blk.lt (h:Blk w g t cs):g<w.heap.size:=by
  rcases Nat.lt_or_ge g w.heap.size with hlt|hge
  · exact hlt
  · unfold Blk at h;rw [Array.getElem?_eq_none hge] at h;cases h
theorem Blk.cell (h:Blk w g t cs) (i:Nat):w.cell? ⟨g,i,none⟩=cs[i]? :=cell_of_row w g i cs t (0,0) h
theorem Blk.frozen (h:Blk w g t cs) (i:Nat):w.frozen? ⟨g,i,none⟩=false:=by
  unfold Blk at h
  simp [World.frozen?,h]
theorem Blk.new (w:World) (t:TypeId) (cs:Array Value):Blk (w.alloc (.cells cs t)) w.heap.size t cs:=heap_alloc_new w _
theorem Blk.alloc (h:Blk w g t cs) (o:Obj):Blk (w.alloc o) g t cs:=(Below.heap_alloc w o g h.lt).trans h
theorem Blk.set_ (h:Blk w g t cs) (i:Nat) (u:Value):Blk (w.setCell ⟨g,i,none⟩ u) g t (cs.setIfInBounds i u):=by
  unfold Blk at h ⊢
  simp [World.setCell,Array.getElem?_modify,h]
theorem Blk.far (h:Blk w g t cs) {p:Addr} (hp:g≠p.block) (u:Value):Blk (w.setCell p u) g t cs:=(Below.heap_setCell w p u g hp).trans h
theorem Blk.below {B:Nat} (h:Blk w g t cs) (hb:Below B w w') (hg:g<B):Blk w' g t cs:=(hb.block g hg).trans h
theorem Blk.keep (h:Blk w g t cs) (hb:Below w.heap.size w w'):Blk w' g t cs:=(hb.block g h.lt).trans h
end
theorem setCells_blk {g:Nat} {t:TypeId}:∀(l:List Value) (o:Nat) (w:World) (cs:Array Value),Blk w g t cs→∃cs',Blk (w.setCells g o l) g t cs'∧cs'.size=cs.size
  | [],_,w,cs,h=>⟨cs,h,rfl⟩
  |v :: l,o,w,cs,h=>by
    obtain ⟨cs',h1,h2⟩:=setCells_blk l (o+1) _ _ (h.set_ o v)
    exact ⟨cs',h1,by simpa using h2⟩
theorem Blk.setCells {w:World} {g:Nat} {t:TypeId} {cs cs':Array Value} (h:Blk w g t cs) (hs:cs'.size=cs.size):Blk (w.setCells g 0 cs'.toList) g t cs':=by
  obtain ⟨c2,h2,hz⟩:=setCells_blk cs'.toList 0 w cs h
  have:c2=cs':=by
    apply Array.ext (by omega)
    intro i h3 h4
    apply Option.some.inj
    rw [←Array.getElem?_eq_getElem,←Array.getElem?_eq_getElem,←h2.cell i]
    have:=World.cell?_setCells_in g cs'.toList 0 w (fun j hj=>by
      rw [h.cell];simp at hj;simp;omega) i (by simpa using h4)
    rw [Nat.zero_add] at this
    rw [this,Array.getElem?_eq_getElem h4]
    rfl
  rw [this] at h2
  exact h2
theorem below_setCells {B g:Nat} (hg:B≤g):∀(l:List Value) (o:Nat) {a w:World},Below B a w→Below B a (w.setCells g o l)
  | [],_,_,_,h=>h
  |_ :: l,o,_,_,h=>below_setCells hg l (o+1) (h.setCell hg _)
theorem Blk.there {w:World} {g:Nat} {t:TypeId} {cs:Array Value} (h:Blk w g t cs) {n:Nat} (hn:n≤cs.size):w.there g 0 n:=fun j hj=>by
  rw [Nat.zero_add,h.cell,h.frozen]
  exact ⟨by simp;omega,rfl⟩
/-- A slice of n bytes, nil let in, that reads as the list l. -/
def Bytes (w:World) (A:Option Addr) (n:Nat) (l:List Nat):Prop:=
  n=l.length∧n≤maxLen∧∀(i c:Nat),l[i]? =some c→c<256∧∃ad,A=some ad∧w.cell? (ad.add i)=some (.int .u8 (c:Int))
theorem Bytes.keep {w w':World} {A:Option Addr} {n:Nat} {l:List Nat} (h:Bytes w A n l) (hb:Below w.heap.size w w'):Bytes w' A n l:=
  ⟨h.1,h.2.1,fun i c hi=>by
    obtain ⟨hc,ad,e,hcell⟩:=h.2.2 i c hi
    exact ⟨hc,ad,e,cell_keep hb hcell⟩⟩
theorem Bytes.lt {w:World} {A:Option Addr} {n:Nat} {l:List Nat} (h:Bytes w A n l):∀c∈l,c<256:=fun c hc=>by
  obtain ⟨i,hi⟩:=List.getElem?_of_mem hc
  exact (h.2.2 i c hi).1
theorem Bytes.at_ {w : World} {A : Option Addr} {n : Nat} {l : List Nat} (h : Bytes w A n l) {k : Nat} (hk : k < n) :
    ∃ad c,A=some ad∧l[k]? =some c∧c<256∧w.cell? (ad.add k)=some (.int .u8 (c:Int)):=by
  have hl:k<l.length:=by have:=h.1;omega
  obtain ⟨hc,ad,e,hcell⟩:=h.2.2 k l[k] (List.getElem?_eq_getElem hl)
  exact ⟨ad,l[k],e,List.getElem?_eq_getElem hl,hc,hcell⟩
theorem add_of_add (a:Addr) (i j:Nat):(a.add i).add j=a.add (i+j):=by
  unfold Addr.add
  by_cases hi:i=0 <;> by_cases hj:j=0 <;> simp [hi,hj,Nat.add_assoc]
theorem Bytes.cutTo {w:World} {A:Option Addr} {n:Nat} {l:List Nat} (h:Bytes w A n l) {k:Nat} (hk:k≤n):Bytes w A k (l.take k):=
  ⟨by rw [List.length_take];have:=h.1;omega,by have:=h.2.1;omega,fun i c hi=>by
    rw [List.getElem?_take] at hi
    split at hi
    · exact h.2.2 i c hi
    · cases hi⟩
theorem Bytes.cutFrom {w : World} {A : Option Addr} {n : Nat} {l : List Nat} (h : Bytes w A n l) {k cap : Nat} (hk : k ≤ n) (hc : n ≤ cap) :
    Bytes w (if cap=k then A else A.map (·.add k)) (n - k) (l.drop k):=
  ⟨by rw [List.length_drop,h.1],by have:=h.2.1;omega,fun i c hi=>by
    rw [List.getElem?_drop] at hi
    obtain ⟨h1,ad,rfl,hcell⟩:=h.2.2 (k+i) c hi
    have:k+i<l.length:=by
      rcases Nat.lt_or_ge (k+i) l.length with h2|h2
      · exact h2
      · rw [List.getElem?_eq_none h2] at hi;cases hi
    have:=h.1
    rw [if_neg (by omega)]
    exact ⟨h1,ad.add k,rfl,by rw [add_of_add];exact hcell⟩⟩
/-- A slice of n byte slices that read as the lists ls. -/
def Texts (w:World) (A:Option Addr) (n:Nat) (ls:List (List Nat)):Prop:=
  n=ls.length∧n≤maxLen∧∀(i:Nat) (l:List Nat),ls[i]? =some l→∃ad B m c,A=some ad∧w.cell? (ad.add i)=some (.slice B m c)∧Bytes w B m l
theorem Texts.keep {w w':World} {A:Option Addr} {n:Nat} {ls:List (List Nat)} (h:Texts w A n ls) (hb:Below w.heap.size w w'):Texts w' A n ls:=
  ⟨h.1,h.2.1,fun i l hi=>by
    obtain ⟨ad,B,m,c,e,hcell,hl⟩:=h.2.2 i l hi
    exact ⟨ad,B,m,c,e,cell_keep hb hcell,hl.keep hb⟩⟩
theorem lt2 (n:Nat):n<n+1+1:=by omega
theorem lt3 (n:Nat):n<n+1+1+1:=by omega
theorem lt4 (n:Nat):n<n+1+1+1+1:=by omega
theorem lt5 (n:Nat):n<n+1+1+1+1+1:=by omega
theorem blw {B:Nat} {a w:World} (h:Below B a w:=by ((repeat' first|with_reducible exact Below.refl _ _|with_reducible assumption|with_reducible refine Below.alloc ?_ ?_ _|with_reducible refine Below.setCell ?_ ?_ _|with_reducible apply Below.drew|with_reducible apply below_drewN|with_reducible refine below_call ?_ (by with_reducible assumption) ?_) <;> (first|omega|(simp;done)|(simp;omega)|(simp at*;omega)))):Below B a w:=h
theorem sta_ {α:Type _} (l:List α) (i:Nat) (a:α):l.toArray.setIfInBounds i a=(l.set i a).toArray:=List.setIfInBounds_toArray ..
theorem scz_ {α:Type _} (x:α) (l:List α) (a:α):(x :: l).set 0 a=a :: l:=List.set_cons_zero ..
theorem scs_ {α:Type _} (x:α) (l:List α) (n:Nat) (a:α):(x :: l).set (n+1) a=x :: l.set n a:=List.set_cons_succ ..
end Go.Proofs.YtlolnakeancenaaDoor
namespace Go.Proofs.YtlolnakeancenaaDoor
open Go.RowKit
section
variable {P:Program} (w:World)
/-- What is appended: m elements at the address A (none where there are none). -/
def Src (w:World) (size:Nat) (A:Option Addr) (m:Nat) (news:List Value):Prop:=
 news.length=m*size∧(∀j u,news[j]? =some u→∃ad,A=some ad∧w.cell? (ad.add j)=some u)∧∀u∈news,u.oneCell'=true
theorem run_app (base:Nat) (t ty e:TypeId) (i:TypeInfo) (z:Value) (size bytes:Nat) (ht:P.underlying t=some (.slice e)) (hi:P.info? e=some i) (hz:i.zero=some z)
  (hsize:i.size=size) (hby:i.bytes=bytes) (hzs:z.cells.size=size) (hsz:0<size)
  (v:Value) (n:Nat) (xs:List Value) (hown:w.ownsRow base e size v n xs) (A:Option Addr) (m c:Nat) (news:List Value) (hs:Src w size A m news)
  (h63:n+m≤maxLen) (hbytes:(n+m)*bytes≤140737488355328) (hbase:base≤w.heap.size):
  ∃v' w',(Builtin.append_ #[t,t] ty #[v,.slice A m c]).run P w= .ok v' w'∧w'.ownsRow base e size v' (n+m) (xs++news)∧w.grownBy w' v.ownBlock∧
   (v'.ownBlock=v.ownBlock∨v'.ownBlock=some w.heap.size)∧w'.ownsRow base e size v n xs:=by
 obtain ⟨hl,hsrc,h1⟩:=hs
 by_cases hm0:m=0
 ·-- nothing is appended
  subst hm0
  have hn:news=[]:=List.eq_nil_of_length_eq_zero (by simpa using hl)
  subst hn
  refine ⟨v,w,?_,by simpa using hown,⟨rfl,rfl,rfl,Nat.le_refl _,fun _ _ _=>rfl⟩,.inl rfl,hown⟩
  have hfc:∀s:Nat,(Builtin.firstCells s 0 (.slice A 0 c)).run P w= .ok #[] w:=by
   intro s
   cases A <;> simp [Builtin.firstCells,loadCells,loadCellsFrom]
  rcases hown.2 with ⟨rfl,rfl⟩|⟨g,cap,cur,rfl,_,_,hnc,_⟩
  ·simp [Builtin.append_,run_underlying ht,sizeOf,typeInfo,hi,Builtin.lenOf,hfc]
  ·simp [Builtin.append_,run_underlying ht,sizeOf,typeInfo,hi,Builtin.lenOf,hfc,hnc,storeCells]
 ·have hpos:0<news.length:=by rw [hl];exact Nat.mul_pos (by omega) hsz
  obtain ⟨ad,rfl,_⟩:=hsrc 0 news[0] (List.getElem?_eq_getElem hpos)
  have hnews:∀j u,news[j]? =some u→w.cell? (ad.add j)=some u:=fun j u hj=>by
   obtain ⟨ad',he,hc⟩:=hsrc j u hj
   cases he
   exact hc
  obtain ⟨v',w',hr,h2,h3,_,h5⟩:=run_append_own_at (P:=P) w base t ty e i z size bytes ht hi hz hsize hby hzs hsz v n xs hown ad m c news hl hnews h1 h63 hbytes hbase
  refine ⟨v',w',hr,h2,h3,h5,?_⟩
  subst hsize
  subst hby
  rcases hown.2 with ⟨rfl,rfl⟩|⟨g,cap,cur,rfl,hbg,hg,hnc,hcm,hcs,htake⟩
  ·have hx:xs=[]:=List.eq_nil_of_length_eq_zero (by simpa using hown.1)
   subst hx
   exact World.ownsRow_nil _ _ _ _
  ·by_cases hroom:n+m≤cap
   ·have hfit:n*i.size+news.length≤cur.size:=by rw [hl,hcs,←Nat.add_mul];exact Nat.mul_le_mul_right _ hroom
    have hr':=run_append_room (P:=P) w t ty e i ht hi g n cap cur hg ad m c news hl hnews h1 hroom hfit
    rw [hr] at hr'
    injection hr' with _ hw
    subst hw
    refine ⟨hown.1,.inr ⟨g,cap,_,rfl,hbg,setRow_heap w g cur _ e _ hg,hnc,hcm,?_,?_⟩⟩
    ·simp only [List.size_toArray,List.length_append,List.length_take,List.length_drop,Array.length_toList]
     omega
    ·rw [htake,List.append_assoc,←hown.1]
     exact List.take_left
   ·have holds:∀j u,xs[j]? =some u→w.cell? ((⟨g,0,none⟩:Addr).add j)=some u:=hown.cells (g:=g) rfl
    have hr':=run_append_grow (P:=P) w t ty e i z ht hi hz ⟨g,0,none⟩ n cap xs hown.1 holds ad m c news hl hnews (by omega) (by simp only [maxLen] at h63;omega) (growslice_fits (by omega) hbytes)
    rw [hr] at hr'
    injection hr' with _ hw
    subst hw
    refine ⟨hown.1,.inr ⟨g,cap,cur,rfl,hbg,?_,hnc,hcm,hcs,htake⟩⟩
    exact (Below.heap_alloc w.drew _ g (Array.getElem?_eq_some_iff.1 hg).1).trans hg
theorem wp_app {o:Oper} {a:Act} {K:Act→World→Prop} {Q:Exit→Act→World→Prop} (s x:Operand) (t:TypeId)
  (ho:o.op= .call { callee:=.builtin .append,args:=#[s,x],argTypes:=#[t,t] })
  (base:Nat) (e:TypeId) (i:TypeInfo) (z:Value) (size bytes:Nat) (ht:P.underlying t=some (.slice e)) (hi:P.info? e=some i) (hz:i.zero=some z)
  (hsize:i.size=size) (hby:i.bytes=bytes) (hzs:z.cells.size=size) (hsz:0<size)
  (v:Value) (n:Nat) (xs:List Value) (hs:a.eval s=v) (hown:w.ownsRow base e size v n xs)
  (A:Option Addr) (m c:Nat) (news:List Value) (hx:a.eval x= .slice A m c) (hsrc:Src w size A m news)
  (h63:n+m≤maxLen) (hbytes:(n+m)*bytes≤140737488355328) (hbase:base≤w.heap.size)
  (h:∀v' w',w'.ownsRow base e size v' (n+m) (xs++news)→w.grownBy w' v.ownBlock→(v'.ownBlock=v.ownBlock∨v'.ownBlock=some w.heap.size)→w'.ownsRow base e size v n xs→K (a.put o.dst v') w'):o.wp P a w K Q:=by
 obtain ⟨v',w',hr,h2,h3,h4,h5⟩:=run_app (P:=P) w base t o.type e i z size bytes ht hi hz hsize hby hzs hsz v n xs hown A m c news hsrc h63 hbytes hbase
 unfold Oper.wp execOp
 simp only [ho,resolve,invoke,builtin,Sem.run_bind,Sem.run_pure,Result.andThen_ok,List.map_toArray,List.map_cons,List.map_nil,hs,hx,hr]
 exact h v' w' h2 h3 h4 h5
/-- At the list of a plain region's operations. -/
theorem wpList_app {ops:Array Oper} {rest:List Oper} {o:Oper} {a:Act} {Q:Exit→Act→World→Prop} (hgd:o.guard=none) (s x:Operand) (t:TypeId)
  (ho:o.op= .call { callee:=.builtin .append,args:=#[s,x],argTypes:=#[t,t] })
  (base:Nat) (e:TypeId) (i:TypeInfo) (z:Value) (size bytes:Nat) (ht:P.underlying t=some (.slice e)) (hi:P.info? e=some i) (hz:i.zero=some z)
  (hsize:i.size=size) (hby:i.bytes=bytes) (hzs:z.cells.size=size) (hsz:0<size)
  (v:Value) (n:Nat) (xs:List Value) (hs:a.eval s=v) (hown:w.ownsRow base e size v n xs)
  (A:Option Addr) (m c:Nat) (news:List Value) (hx:a.eval x= .slice A m c) (hsrc:Src w size A m news)
  (h63:n+m≤maxLen) (hbytes:(n+m)*bytes≤140737488355328) (hbase:base≤w.heap.size)
  (h:∀v' w',w'.ownsRow base e size v' (n+m) (xs++news)→w.grownBy w' v.ownBlock→(v'.ownBlock=v.ownBlock∨v'.ownBlock=some w.heap.size)→w'.ownsRow base e size v n xs→wpList P ops Q rest (a.put o.dst v') w'):wpList P ops Q (o :: rest) a w:=
 wpList_plain hgd fun _ hK=>wp_app w s x t ho base e i z size bytes ht hi hz hsize hby hzs hsz v n xs hs hown A m c news hx hsrc h63 hbytes hbase fun v' w' h2 h3 h4 h5=>hK _ _ (h v' w' h2 h3 h4 h5)
/-- At a step of a region that draws its order. -/
theorem step_app {ops:Array Oper} {o:Oper} {a:Act} {K:Act→World→Prop} {Q:Exit→Act→World→Prop} {E:Prop} (hgd:o.guard=none) (s x:Operand) (t:TypeId)
  (ho:o.op= .call { callee:=.builtin .append,args:=#[s,x],argTypes:=#[t,t] })
  (base:Nat) (e:TypeId) (i:TypeInfo) (z:Value) (size bytes:Nat) (ht:P.underlying t=some (.slice e)) (hi:P.info? e=some i) (hz:i.zero=some z)
  (hsize:i.size=size) (hby:i.bytes=bytes) (hzs:z.cells.size=size) (hsz:0<size)
  (v:Value) (n:Nat) (xs:List Value) (hs:a.eval s=v) (hown:w.ownsRow base e size v n xs)
  (A:Option Addr) (m c:Nat) (news:List Value) (hx:a.eval x= .slice A m c) (hsrc:Src w size A m news)
  (h63:n+m≤maxLen) (hbytes:(n+m)*bytes≤140737488355328) (hbase:base≤w.heap.size)
  (h:∀v' w',w'.ownsRow base e size v' (n+m) (xs++news)→w.grownBy w' v.ownBlock→(v'.ownBlock=v.ownBlock∨v'.ownBlock=some w.heap.size)→w'.ownsRow base e size v n xs→K (a.put o.dst v') w'):
  if Region.wanted o (yielded ops a.tmps)=true then Oper.wp P o a w K Q else E:=by
 have hw:Region.wanted o (yielded ops a.tmps)=true:=by simp [Region.wanted,hgd]
 rw [if_pos hw]
 exact wp_app w s x t ho base e i z size bytes ht hi hz hsize hby hzs hsz v n xs hs hown A m c news hx hsrc h63 hbytes hbase h
end
/-! ### Bytes -/
/-- The cells of a row of bytes. -/
def u8s (l:List Nat):List Value:=l.map fun (c:Nat)=>Value.int .u8 (c:Int)
theorem u8s_length (l:List Nat):(u8s l).length=l.length:=by simp [u8s]
theorem u8s_append (a b:List Nat):u8s (a++b)=u8s a++u8s b:=by simp [u8s]
theorem u8s_one (l:List Nat):∀u∈u8s l,u.oneCell'=true:=fun u hu=>by
 simp only [u8s,List.mem_map] at hu
 obtain ⟨c,_,rfl⟩:=hu
 rfl
theorem Src.of_bytes {w:World} {A:Option Addr} {n:Nat} {l:List Nat} (h:Bytes w A n l):Src w 1 A n (u8s l):=
 ⟨by rw [u8s_length,h.1,Nat.mul_one],fun j u hu=>by
  simp only [u8s,List.getElem?_map,Option.map_eq_some_iff] at hu
  obtain ⟨c,hc,rfl⟩:=hu
  exact (h.2.2 j c hc).2,u8s_one l⟩
/-- A byte slice of the call's own that reads as l: it lies in a block from base on, and may be written. -/
def OwnB (w:World) (base:Nat) (e:TypeId) (v:Value) (l:List Nat):Prop:=w.ownsRow base e 1 v l.length (u8s l)∧∀c∈l,c<256
theorem OwnB.bytes {w:World} {base:Nat} {e:TypeId} {A:Option Addr} {n c:Nat} {l:List Nat} (h:OwnB w base e (.slice A n c) l):n=l.length∧n≤c∧Bytes w A n l:=by
 have hn:n=l.length∧n≤c∧l.length≤maxLen:=by
  rcases h.1.2 with ⟨hv,hl⟩|⟨g,cap,cur,hv,_,_,hle,hcap,_⟩
  ·cases hv;rw [hl];exact ⟨rfl,Nat.le_refl _,Nat.zero_le _⟩
  ·cases hv;exact ⟨rfl,hle,by omega⟩
 refine ⟨hn.1,hn.2.1,hn.1,by have:=hn.2.2;omega,fun i x hi=>⟨h.2 x (List.mem_of_getElem? hi),?_⟩⟩
 have hx:(u8s l)[i]? =some (.int .u8 (x:Int)):=by simp [u8s,hi]
 rcases h.1.2 with ⟨_,hl⟩|⟨g,cap,cur,hv,_⟩
 ·have:l=[]:=List.eq_nil_of_length_eq_zero hl
  subst this
  simp at hi
 ·cases hv
  exact ⟨_,rfl,h.1.cells (g:=g) rfl i _ hx⟩
theorem OwnB.form {w:World} {base:Nat} {e:TypeId} {v:Value} {l:List Nat} (h:OwnB w base e v l):∃A c,v= .slice A l.length c∧l.length≤c∧c≤maxLen:=by
 rcases h.1.2 with ⟨rfl,hl⟩|⟨g,cap,cur,rfl,_,_,hle,hm,_⟩
 ·exact ⟨none,0,by rw [hl],by omega,Nat.zero_le _⟩
 ·exact ⟨_,cap,rfl,hle,hm⟩
theorem OwnB.nil_ (w:World) (base:Nat) (e:TypeId):OwnB w base e (.slice none 0 0) []:=⟨World.ownsRow_nil _ _ _ _,by simp⟩
theorem OwnB.made {w:World} {base:Nat} {e:TypeId} (hb:base≤w.heap.size):OwnB (w.alloc (.cells #[] e)) base e (.slice (some ⟨w.heap.size,0,none⟩) 0 0) []:=
 ⟨World.ownsRow_made w #[] 0 hb (Nat.zero_le _) (by simp),by simp⟩
theorem grown_of_below {w w':World} (hb:Below w.heap.size w w') (row:Option Nat):w.grownBy w' row:=⟨hb.os,hb.tape,hb.output,hb.size,fun k hk _=>hb.block k hk⟩
theorem OwnB.keep {w w':World} {base:Nat} {e:TypeId} {v:Value} {l:List Nat} (h:OwnB w base e v l) (hb:Below w.heap.size w w'):OwnB w' base e v l:=
 ⟨h.1.kept (grown_of_below hb none) (by cases v.ownBlock <;> simp),h.2⟩
theorem OwnB.kept {w w':World} {base:Nat} {e:TypeId} {v:Value} {l:List Nat} {row:Option Nat} (h:OwnB w base e v l) (hg:w.grownBy w' row) (hne:v.ownBlock=none∨v.ownBlock≠row):OwnB w' base e v l:=
 ⟨h.1.kept hg hne,h.2⟩
/-- Behind an append all below the base is as it was. -/
theorem below_app {B base:Nat} {a w w':World} {e:TypeId} {size:Nat} {v:Value} {n:Nat} {xs:List Value} (h:Below B a w) (hown:w.ownsRow base e size v n xs) (hg:w.grownBy w' v.ownBlock) (hB:B≤base) (hs:B≤w.heap.size):Below B a w':=
 h.grown hg hs fun k hk=>by have:=(hown.lt k hk).1;omega
theorem Bytes.below {B:Nat} {w w':World} {A:Option Addr} {n:Nat} {l:List Nat} (h:Bytes w A n l) (hb:Below B w w') (hB:w.heap.size≤B):Bytes w' A n l:=h.keep (hb.mono hB)
theorem Bytes.of_block {w:World} {g:Nat} {e:TypeId} {fr:Nat × Nat} {l:List Nat} (h:w.heap[g]? =some (.cells (u8s l).toArray e fr)) (hl:∀c∈l,c<256) (hm:l.length≤maxLen):
  Bytes w (some ⟨g,0,none⟩) l.length l:=
 ⟨rfl,hm,fun i x hi=>⟨hl x (List.mem_of_getElem? hi),_,rfl,by
  have hadd:(⟨g,0,none⟩:Addr).add i=⟨g,i,none⟩:=by unfold Addr.add;split <;> simp_all
  rw [hadd,cell_of_row w g i _ e fr h]
  simp [u8s,hi]⟩⟩
/-- A slice of one slice of bytes; of two; of four. -/
theorem texts1 {w:World} {g:Nat} {B:Option Addr} {m c:Nat} {l:List Nat} (h0:w.cell? ⟨g,0,none⟩=some (.slice B m c)) (hb:Bytes w B m l):Texts w (some ⟨g,0,none⟩) 1 [l]:=
 ⟨rfl,by decide,fun i x hi=>by
  match i with
  |0=>simp at hi;subst hi;exact ⟨_,B,m,c,rfl,by simpa [Addr.add] using h0,hb⟩
  |i+1=>simp at hi⟩
end Go.Proofs.YtlolnakeancenaaDoor
namespace Go.Proofs.YtlolnakeancenaaDoor
open Go.RowKit
set_option linter.unusedVariables false
set_option linter.unusedSimpArgs false
set_option maxRecDepth 20000
attribute [local go_sem ↓] Go.wp_at_zero Go.wp_at_succ
attribute [local go_sem] World.cell?_alloc_some frozen_alloc_some
open Go.ChangeShapes Go.WideShapes Go.ChangeAt
open Go.ChangeMaps (open_string shut_string)
structure CmdT where
 kind:Int
 client:Int
 seq:Int
 key:ByteArray
 val:ByteArray
 rev:Int
def CmdT.v (c:CmdT):Value:=.agg #[.int .i64 c.kind,.int .i64 c.client,.int .i64 c.seq,.string c.key,.string c.val,.int .i64 c.rev]
structure CmdT.Ok (c:CmdT):Prop where
 kind:(Lit.int .i64 c.kind).wf=true
 client:(Lit.int .i64 c.client).wf=true
 seq:(Lit.int .i64 c.seq).wf=true
 key:c.key.size≤maxLen
 val:c.val.size≤maxLen
 rev:(Lit.int .i64 c.rev).wf=true
end Go.Proofs.YtlolnakeancenaaDoor
namespace Go.Proofs.YtlolnakeancenaaDoor
open Go.RowKit
/-- A block of bytes of the call's own reads as its list. -/
theorem Blk.bytes {w:World} {g:Nat} {e:TypeId} {l:List Nat} (h:Blk w g e (u8s l).toArray) (hl:∀c∈l,c<256) (hm:l.length≤maxLen):Bytes w (some ⟨g,0,none⟩) l.length l:=
 Bytes.of_block (fr:=(0,0)) h hl hm
end Go.Proofs.YtlolnakeancenaaDoor
namespace Go.Proofs.YtlolnakeancenaaDoor
open Go.RowKit
set_option linter.unusedVariables false
set_option linter.unusedSimpArgs false
set_option linter.unnecessarySimpa false
theorem src_one {w:World} {e:TypeId} {u:Value} (h1:u.oneCell'=true):Src (w.alloc (.cells #[u] e)) 1 (some ⟨w.heap.size,0,none⟩) 1 [u]:=
 ⟨rfl,fun j x hj=>by
  match j with
  |0=>simp at hj;subst hj;exact ⟨_,rfl,by simpa [Addr.add] using (new_cell w #[u] e 0 rfl).1⟩
  |j+1=>simp at hj,fun x hx=>by simp at hx;subst hx;exact h1⟩
theorem below_one {w:World} (o:Obj):Below w.heap.size w (w.alloc o):=(Below.refl _ _).alloc (Nat.le_refl _) _
/-- Out of b, which read as l in w, has come b', which reads as l' in w'; what else was there has not turned, and b reads as it did. -/
structure Onto (w:World) (base:Nat) (e:TypeId) (b:Value) (l:List Nat) (w':World) (b':Value) (l':List Nat):Prop where
 own:OwnB w' base e b' l'
 grown:w.grownBy w' b.ownBlock
 place:b'.ownBlock=b.ownBlock∨∃g,b'.ownBlock=some g∧w.heap.size≤g
 old:OwnB w' base e b l
 pre:∃m,l'=l++m
 lt:∀k,b.ownBlock=some k→k<w.heap.size
theorem grown_trans' {a b c:World} {r r':Option Nat} (h:a.grownBy b r) (k:b.grownBy c r') (hr:r'=r∨∃g,r'=some g∧a.heap.size≤g):a.grownBy c r:=
 ⟨k.os.trans h.os,k.tape.trans h.tape,k.output.trans h.output,Nat.le_trans h.size k.size,fun i hi hne=>by
  rw [k.block i (Nat.lt_of_lt_of_le hi h.size) (fun e=>by
   rcases hr with rfl|⟨g,rfl,hg⟩
   ·exact hne e
   ·injection e with e;omega)]
  exact h.block i hi hne⟩
theorem OwnB.pre {w1 w2:World} {base:Nat} {e:TypeId} {b b1:Value} {l m:List Nat} (h1:OwnB w1 base e b l) (h2:OwnB w1 base e b1 (l++m)) (hs:b1.ownBlock=b.ownBlock) (h3:OwnB w2 base e b1 (l++m)):OwnB w2 base e b l:=by
 refine ⟨?_,h1.2⟩
 rcases h1.1.2 with ⟨rfl,hl⟩|⟨g,cap,cur,rfl,hb,hg,hle,hcm,hcs,htk⟩
 ·have:l=[]:=List.eq_nil_of_length_eq_zero hl
  subst this
  exact World.ownsRow_nil _ _ _ _
 ·rcases h2.1.2 with ⟨rfl,hl2⟩|⟨g2,cap2,cur2,rfl,_,hg2,_,_,hcs2,_⟩
  ·simp [Value.ownBlock] at hs
  ·have hgg:g2=g:=by simpa [Value.ownBlock] using hs
   subst hgg
   rw [hg] at hg2
   injection hg2 with hg2
   injection hg2 with hcur
   subst hcur
   have hcc:cap2=cap:=by omega
   subst hcc
   rcases h3.1.2 with ⟨hv,_⟩|⟨g3,cap3,cur3,hv,hb3,hg3,_,_,hcs3,htk3⟩
   ·cases hv
   ·injection hv with hv _ hc3
    injection hv with hv
    injection hv with hv
    subst hv
    subst hc3
    refine ⟨h1.1.1,.inr ⟨g2,cap2,cur3,rfl,hb,hg3,hle,hcm,hcs3,?_⟩⟩
    have:=congrArg (List.take (l.length*1)) htk3
    rw [List.take_take,Nat.min_eq_left (by simp),u8s_append] at this
    rw [this]
    rw [List.take_append_of_le_length (by simp [u8s_length])]
    exact List.take_of_length_le (by simp [u8s_length])
theorem Onto.refl {w:World} {base:Nat} {e:TypeId} {b:Value} {l:List Nat} (h:OwnB w base e b l):Onto w base e b l w b l:=
 ⟨h,World.grownBy.refl w _,.inl rfl,h,⟨[],by simp⟩,fun k hk=>(h.1.lt k hk).2⟩
/-- A call that turns nothing. -/
theorem Onto.keep {w w1 w2:World} {base:Nat} {e:TypeId} {b b1:Value} {l l1:List Nat} (h:Onto w base e b l w1 b1 l1) (hb:Below w1.heap.size w1 w2):Onto w base e b l w2 b1 l1:=
 ⟨h.own.keep hb,⟨hb.os.trans h.grown.os,hb.tape.trans h.grown.tape,hb.output.trans h.grown.output,Nat.le_trans h.grown.size hb.size,fun i hi hne=>(hb.block i (Nat.lt_of_lt_of_le hi h.grown.size)).trans (h.grown.block i hi hne)⟩,
  h.place,h.old.keep hb,h.pre,h.lt⟩
/-- Another append. -/
theorem Onto.step {w w1 w2:World} {base:Nat} {e:TypeId} {b b1 b2:Value} {l l1 m:List Nat} (h:Onto w base e b l w1 b1 l1)
  (hown:w2.ownsRow base e 1 b2 (l1.length+m.length) (u8s l1++u8s m)) (hm:∀c∈m,c<256) (hg:w1.grownBy w2 b1.ownBlock) (hat:b2.ownBlock=b1.ownBlock∨b2.ownBlock=some w1.heap.size)
  (hold:w2.ownsRow base e 1 b1 l1.length (u8s l1)):Onto w base e b l w2 b2 (l1++m):=by
 obtain ⟨mm,rfl⟩:=h.pre
 have hpl:b1.ownBlock=b.ownBlock∨∃g,b1.ownBlock=some g∧w.heap.size≤g:=h.place
 have ho1:OwnB w2 base e b1 (l++mm):=⟨hold,h.own.2⟩
 refine ⟨⟨by rw [List.length_append,u8s_append];exact hown,fun c hc=>?_⟩,grown_trans' h.grown hg hpl,?_,?_,⟨mm++m,by simp⟩,h.lt⟩
 ·rcases List.mem_append.1 hc with hc|hc
  ·exact h.own.2 c hc
  ·exact hm c hc
 ·rcases hat with hat|hat
  ·rw [hat];exact hpl
  ·exact .inr ⟨_,hat,h.grown.size⟩
 ·rcases hpl with hpl|⟨g,hpl,hgw⟩
  ·exact h.old.pre h.own hpl ho1
  ·refine h.old.kept hg ?_
   cases hbo:b.ownBlock with
   |none=>exact .inl rfl
   |some k=>
    right
    rw [hpl]
    intro hk
    injection hk with hk
    have:=h.lt k hbo
    omega
theorem Onto.below {w w1:World} {base:Nat} {e:TypeId} {b b1:Value} {l l1:List Nat} (h:Onto w base e b l w1 b1 l1) {B:Nat} {a:World} (ha:Below B a w) (hB:B≤base) (hs:B≤w.heap.size) (hl:OwnB w base e b l):Below B a w1:=
 ha.grown h.grown hs fun k hk=>by have:=(hl.1.lt k hk).1;omega
/-- What a function that appends gives back. -/
def Appends (w:World) (base:Nat) (e:TypeId) (b:Value) (l news:List Nat) (r:Ending) (w':World):Prop:=∃b',r= .returned b'∧Onto w base e b l w' b' (l++news)
/-- What an append leaves is of the call's own. -/
theorem OwnB.join {w:World} {base:Nat} {e:TypeId} {v:Value} {l m:List Nat} (h:w.ownsRow base e 1 v (l.length+m.length) (u8s l++u8s m)) (hl:∀c∈l,c<256) (hm:∀c∈m,c<256):OwnB w base e v (l++m):=
 ⟨by rw [List.length_append,u8s_append];exact h,fun c hc=>by
  rcases List.mem_append.1 hc with hc|hc
  ·exact hl c hc
  ·exact hm c hc⟩
end Go.Proofs.YtlolnakeancenaaDoor
namespace Go.Proofs
open Go.Shelf
def Tryd.lays215_ren:Go.Shelf.Ren:=⟨fun|215=>110|n=>n,fun|3=>3|4=>4|n=>n,fun|n=>n⟩
theorem Tryd.lays215:Go.Proofs.Lays.n215 Tryd.prog Tryd.lays215_ren:={
  mixed:=by kernel_rfl
  f215:=Tryd.func110.trans (congrArg some (by kernel_rfl))
  t3:=Tryd.underlying3
  a3:=Tryd.isAgg3
  z3:=Tryd.sizeOf3
  v3:=Tryd.zeroValue3
  t4:=Tryd.underlying4
  a4:=Tryd.isAgg4
  z4:=Tryd.sizeOf4
  v4:=Tryd.zeroValue4 }
open Go.RowKit in
/-- cmp.isNaN at int: 'x != x': false. (LAID: no walk: one application.) -/
theorem Tryd.cmp_isNaN_int (x : Int) (w : World) :
    Calls Tryd.prog 110 #[.int .i64 x] w fun e w'=>e= .returned (.bool false)∧w'=w:=Any.cmp_isNaN_int Tryd.lays215 x w
def Tryd.lays122_ren:Go.Shelf.Ren:=⟨fun|122=>105|215=>110|n=>n,fun|3=>3|4=>4|n=>n,fun|n=>n⟩
theorem Tryd.lays122:Go.Proofs.Lays.n122 Tryd.prog Tryd.lays122_ren:={
  mixed:=by kernel_rfl
  f122:=Tryd.func105.trans (congrArg some (by kernel_rfl))
  f215:=Tryd.func110.trans (congrArg some (by kernel_rfl))
  t3:=Tryd.underlying3
  a3:=Tryd.isAgg3
  z3:=Tryd.sizeOf3
  v3:=Tryd.zeroValue3
  t4:=Tryd.underlying4
  a4:=Tryd.isAgg4
  z4:=Tryd.sizeOf4
  v4:=Tryd.zeroValue4 }
open Go.RowKit in
/-- cmp.Compare at int: "Compare returns -1 if x is less than y, 0 if x equals y, +1 if x is greater than y.": IT RETURNS 'Lib.compareInt x y'; the world is as it was. (LAID: no walk: one application.) -/
theorem Tryd.cmp_Compare_int (x y : Int) (w : World) :
    Calls Tryd.prog 105 #[.int .i64 x,.int .i64 y] w fun e w'=>e= .returned (.int .i64 (Lib.compareInt x y))∧w'=w:=Any.cmp_Compare_int Tryd.lays122 x y w
def Tryd.lays129_ren:Go.Shelf.Ren:=⟨fun|129=>106|n=>n,fun|53=>22|3=>3|4=>4|46=>64|5=>5|9=>9|n=>n,fun|n=>n⟩
theorem Tryd.lays129:Go.Proofs.Lays.n129 Tryd.prog Tryd.lays129_ren:={
  mixed:=by kernel_rfl
  f129:=Tryd.func106.trans (congrArg some (by kernel_rfl))
  t3:=Tryd.underlying3
  a3:=Tryd.isAgg3
  z3:=Tryd.sizeOf3
  v3:=Tryd.zeroValue3
  t4:=Tryd.underlying4
  a4:=Tryd.isAgg4
  z4:=Tryd.sizeOf4
  v4:=Tryd.zeroValue4
  t5:=Tryd.underlying5
  a5:=Tryd.isAgg5
  z5:=Tryd.sizeOf5
  v5:=Tryd.zeroValue5
  t9:=Tryd.underlying9
  a9:=Tryd.isAgg9
  z9:=Tryd.sizeOf9
  v9:=Tryd.zeroValue9
  t46:=Tryd.underlying64
  a46:=Tryd.isAgg64
  z46:=Tryd.sizeOf64
  v46:=Tryd.zeroValue64
  t53:=Tryd.underlying22
  a53:=Tryd.isAgg22
  z53:=Tryd.sizeOf22
  v53:=Tryd.zeroValue22 }
/-- bits.Len64: "Len64 returns the minimum number of bits required to represent x; the result is 0 for x == 0.": IT RETURNS 'Lib.bitLen x'; the world is as it was. ('h0', 'h1': x is a uint64.) (LAID: no walk: one application.) -/
theorem Tryd.bits_Len64 (x : Int) (w : World) (h0 : 0 ≤ x) (h1 : x ≤ 18446744073709551615) :
    Calls Tryd.prog 106 #[.int .u64 x] w fun e w'=>e= .returned (.int .i64 (Lib.bitLen x.toNat))∧w'=w:=Any.bits_Len64 Tryd.lays129 x w h0 h1
def Tryd.lays197_ren:Go.Shelf.Ren:=⟨fun|197=>111|260=>112|n=>n,fun|9=>9|21=>21|3=>3|4=>4|5=>5|105=>164|119=>166|0=>0|46=>64|139=>169|138=>168|n=>n,fun|3=>1|4=>2|n=>n⟩
theorem Tryd.lays197:Go.Proofs.Lays.n197 Tryd.prog Tryd.lays197_ren:={
  mixed:=by kernel_rfl
  f197:=Tryd.func111.trans (congrArg some (by kernel_rfl))
  f260:=Tryd.func112.trans (congrArg some (by kernel_rfl))
  t0:=Tryd.underlying0
  a0:=Tryd.isAgg0
  z0:=Tryd.sizeOf0
  v0:=Tryd.zeroValue0
  t3:=Tryd.underlying3
  a3:=Tryd.isAgg3
  z3:=Tryd.sizeOf3
  v3:=Tryd.zeroValue3
  t4:=Tryd.underlying4
  a4:=Tryd.isAgg4
  z4:=Tryd.sizeOf4
  v4:=Tryd.zeroValue4
  t5:=Tryd.underlying5
  a5:=Tryd.isAgg5
  z5:=Tryd.sizeOf5
  v5:=Tryd.zeroValue5
  t9:=Tryd.underlying9
  a9:=Tryd.isAgg9
  z9:=Tryd.sizeOf9
  v9:=Tryd.zeroValue9
  t21:=Tryd.underlying21
  a21:=Tryd.isAgg21
  z21:=Tryd.sizeOf21
  v21:=Tryd.zeroValue21
  t46:=Tryd.underlying64
  a46:=Tryd.isAgg64
  z46:=Tryd.sizeOf64
  v46:=Tryd.zeroValue64
  t105:=Tryd.underlying164
  a105:=Tryd.isAgg164
  z105:=Tryd.sizeOf164
  v105:=Tryd.zeroValue164
  t119:=Tryd.underlying166
  a119:=Tryd.isAgg166
  z119:=Tryd.sizeOf166
  t138:=Tryd.underlying168
  a138:=Tryd.isAgg168
  z138:=Tryd.sizeOf168
  v138:=Tryd.zeroValue168
  t139:=Tryd.underlying169
  a139:=Tryd.isAgg169
  z139:=Tryd.sizeOf169
  v139:=Tryd.zeroValue169
  g3:=by kernel_rfl
  g4:=by kernel_rfl }
open Go.RowKit Go.Lib in
/-- unicode/utf8.DecodeRuneInString: "DecodeRuneInString is like DecodeRune but its input is a string.": ("DecodeRune unpacks the first UTF-8 encoding in p and returns the rune and its width in bytes."): WHERE s BEGINS WITH AN ASCII BYTE x: (x, 1). (LAID: no walk: one application.) -/
theorem Tryd.utf8_DecodeRuneInString_ascii (s : ByteArray) (x : UInt8) (w : World) (h0 : s.data.toList[0]? = some x) (hx : x.toNat < 128) :
    Calls Tryd.prog 111 #[.string s] w fun e w'=>e= .returned (.tuple #[.int .i32 x.toNat,.int .i64 1])∧w'=w:=Any.utf8_DecodeRuneInString_ascii Tryd.lays197 s x w h0 hx
def Tryd.lays260_ren:Go.Shelf.Ren:=⟨fun|260=>112|n=>n,fun|9=>9|21=>21|3=>3|4=>4|5=>5|119=>166|0=>0|46=>64|139=>169|138=>168|n=>n,fun|3=>1|4=>2|n=>n⟩
theorem Tryd.lays260:Go.Proofs.Lays.n260 Tryd.prog Tryd.lays260_ren:={
  mixed:=by kernel_rfl
  f260:=Tryd.func112.trans (congrArg some (by kernel_rfl))
  t0:=Tryd.underlying0
  a0:=Tryd.isAgg0
  z0:=Tryd.sizeOf0
  v0:=Tryd.zeroValue0
  t3:=Tryd.underlying3
  a3:=Tryd.isAgg3
  z3:=Tryd.sizeOf3
  v3:=Tryd.zeroValue3
  t4:=Tryd.underlying4
  a4:=Tryd.isAgg4
  z4:=Tryd.sizeOf4
  v4:=Tryd.zeroValue4
  t5:=Tryd.underlying5
  a5:=Tryd.isAgg5
  z5:=Tryd.sizeOf5
  v5:=Tryd.zeroValue5
  t9:=Tryd.underlying9
  a9:=Tryd.isAgg9
  z9:=Tryd.sizeOf9
  v9:=Tryd.zeroValue9
  t21:=Tryd.underlying21
  a21:=Tryd.isAgg21
  z21:=Tryd.sizeOf21
  v21:=Tryd.zeroValue21
  t46:=Tryd.underlying64
  a46:=Tryd.isAgg64
  z46:=Tryd.sizeOf64
  v46:=Tryd.zeroValue64
  t119:=Tryd.underlying166
  a119:=Tryd.isAgg166
  z119:=Tryd.sizeOf166
  t138:=Tryd.underlying168
  a138:=Tryd.isAgg168
  z138:=Tryd.sizeOf168
  v138:=Tryd.zeroValue168
  t139:=Tryd.underlying169
  a139:=Tryd.isAgg169
  z139:=Tryd.sizeOf169
  v139:=Tryd.zeroValue169
  g3:=by kernel_rfl
  g4:=by kernel_rfl }
open Go.RowKit Go.Lib in
theorem Tryd.utf8_decodeRuneInStringSlow (s : ByteArray) (w : World) (hT : Lib.Utf8Tabs 1 2 w) :
    Calls Tryd.prog 112 #[.string s] w fun e w'=>e= .returned (.tuple #[.int .i32 (Lib.decodeGo s).1,.int .i64 (Lib.decodeGo s).2])∧Below w.heap.size w w':=Any.utf8_decodeRuneInStringSlow Tryd.lays260 s w hT
open Go.RowKit Go.Lib in
/-- **unicode/utf8.DecodeRuneInString AT EVERY STRING.** (LAID: no walk: one application.) -/
theorem Tryd.utf8_DecodeRuneInString (s : ByteArray) (w : World) (hT : Lib.Utf8Tabs 1 2 w) :
    Calls Tryd.prog 111 #[.string s] w fun e w'=>e= .returned (.tuple #[.int .i32 (Lib.decodeGo s).1,.int .i64 (Lib.decodeGo s).2])∧Below w.heap.size w w':=Any.utf8_DecodeRuneInString Tryd.lays197 s w hT
end Go.Proofs
namespace Go.Proofs.YtlolnakeancenaaDoor
open Go.RowKit
set_option linter.unusedVariables false
set_option linter.unusedSimpArgs false
set_option maxRecDepth 20000
attribute [local go_sem ↓] Go.wp_at_zero Go.wp_at_succ
attribute [local go_sem] World.cell?_alloc_some frozen_alloc_some
/-- The tables of the library's decoder lie where they lie. -/
def Tabs (w:World):Prop:=Lib.Utf8Tabs 1 2 w
theorem Tabs.keep {w w':World} (h:Tabs w) (hb:Below w.heap.size w w'):Tabs w':=
 ⟨fun c hc=>cell_keep hb (h.1 c hc),fun i hi=>⟨cell_keep hb (h.2 i hi).1,cell_keep hb (h.2 i hi).2⟩⟩
theorem extract_get (s:ByteArray) (pos k:Nat) (h:pos+k<s.size):(s.extract pos s.size).get! k=s.get! (pos+k):=by
 rw [Utf8W.get!_of_lt s (pos+k) h,Utf8W.get!_of_lt _ k (by simp;omega)]
 exact ByteArray.getElem_extract _
theorem decodeN_congr {n a b1 b2 b3 c1 c2 c3:Nat} (h1:1<n→b1=c1) (h2:2<n→b2=c2) (h3:3<n→b3=c3):Lib.decodeN n a b1 b2 b3=Lib.decodeN n a c1 c2 c3:=by
 by_cases e1:1<n
 ·have:=h1 e1;subst this
  by_cases e2:2<n
  ·have:=h2 e2;subst this
   by_cases e3:3<n
   ·have:=h3 e3;subst this;rfl
   ·simp [Lib.decodeN,e3]
  ·have e3:¬3<n:=by omega
   simp [Lib.decodeN,e2,e3]
 ·have e2:¬2<n:=by omega
  have e3:¬3<n:=by omega
  simp [Lib.decodeN,e1,e2,e3]
theorem decodeGo_tail (s:ByteArray) (pos:Nat) (h:pos<s.size):Lib.decodeGo (s.extract pos s.size)=Utf8.decode s pos:=by
 have hz:(s.extract pos s.size).size=s.size - pos:=by simp
 have hn:¬(s.extract pos s.size).size=0:=by omega
 simp only [Lib.decodeGo,if_neg hn]
 rw [Lib.decode_at,Lib.decode_at,hz,Nat.sub_zero,extract_get s pos 0 (by omega),Nat.add_zero]
 exact decodeN_congr (fun h=>by rw [Nat.zero_add,extract_get s pos 1 (by omega)]) (fun h=>by rw [Nat.zero_add,extract_get s pos 2 (by omega)]) (fun h=>by rw [Nat.zero_add,extract_get s pos 3 (by omega)])
theorem nat_one (l:Nat):(((l:Nat):Int)==1)=(l==1):=by rw [Bool.eq_iff_iff];simp;omega
/-- A byte that stands alone. -/
def lone (s:ByteArray) (pos:Nat):Bool:=(Utf8.decode s pos).1==65533&&(Utf8.decode s pos).2==1
set_option maxHeartbeats 2000000 in
theorem alone_any (s:ByteArray) (pos:Nat) (w:World) (hp:pos<s.size) (hs:s.size≤maxLen) (hT:Tabs w):
  Calls Tryd.prog 109 #[.string s,.int .i64 (pos:Int),.int .i32 ((Utf8.decode s pos).1:Int)] w (Gives w (.bool (lone s pos))):=by
 have hd:∀W,Below w.heap.size w W→Calls Tryd.prog 111 #[.string (s.extract pos s.size)] W (fun e w'=>e= .returned (.tuple #[.int .i32 ((Utf8.decode s pos).1:Int),.int .i64 ((Utf8.decode s pos).2:Int)])∧Below W.heap.size W w'):=fun W h=>by
  have:=Tryd.utf8_DecodeRuneInString (s.extract pos s.size) W (hT.keep h)
  rw [decodeGo_tail s pos hp] at this
  exact this
 unfold lone
 generalize Utf8.decode s pos=y at*
 obtain ⟨c,l⟩:=y
 simp only at hd ⊢
 unfold maxLen at hs
 have j0:(0:Int)≤(pos:Int):=by omega
 have j1:(pos:Int)≤(s.size:Int):=by omega
 by_cases hc:c=65533
 ·subst hc
  go_enter Tryd.func109,Tryd.ntmps109
  go_wp2_with fail
  refine (hd w (Below.refl _ _)).mono ?_
  rintro e w1 ⟨rfl,hb1⟩
  go_wp2_with fail
  go_ret
  exact ⟨by simp [nat_one],blw⟩
 ·have hc2:((c:Int) != 65533)=true:=by simp;omega
  go_enter Tryd.func109,Tryd.ntmps109
  go_wp2_with fail
  go_ret
  exact ⟨by simp [hc],blw⟩
/-- How many runes stand from a place on (so many are looked at). -/
def rcnt (s:ByteArray):Nat→Nat→Nat
 |0,_=>0
 |f+1,pos=>if pos<s.size then 1+rcnt s f (pos+(Utf8.decode s pos).2) else 0
/-- A rune that may not stand in a key. -/
def rbad (s:ByteArray) (pos:Nat):Bool:=decide ((Utf8.decode s pos).1<32)||(Utf8.decode s pos).1==127||lone s pos
def rclean (s:ByteArray):Nat→Nat→Bool
 |0,_=>true
 |f+1,pos=>if pos<s.size then !rbad s pos&&rclean s f (pos+(Utf8.decode s pos).2) else true
theorem rcnt_end (s:ByteArray) (f pos:Nat) (h:¬pos<s.size):rcnt s f pos=0:=by cases f <;> simp [rcnt,h]
theorem rclean_end (s:ByteArray) (f pos:Nat) (h:¬pos<s.size):rclean s f pos=true:=by cases f <;> simp [rclean,h]
theorem width_pos (s:ByteArray) (pos:Nat) (h:pos<s.size):1≤(Utf8.decode s pos).2:=by
 by_cases ha:(s[pos]'h).toNat<128
 ·rw [decode_ascii s pos h ha]
  exact Nat.le_refl _
 ·exact (decode_high s pos h (by omega)).2
theorem rcnt_le (s:ByteArray):∀(f pos:Nat),rcnt s f pos≤f
 |0,_=>Nat.le_refl _
 |f+1,pos=>by
  have:=rcnt_le s f (pos+(Utf8.decode s pos).2)
  simp only [rcnt];split <;> omega
set_option maxHeartbeats 2000000 in
theorem count_any (s:ByteArray) (w:World) (hs:s.size≤maxLen):Calls Tryd.prog 101 #[.string s] w (Gives w (.int .i64 (rcnt s s.size 0:Int))):=by
 have hle:=rcnt_le s s.size 0
 unfold maxLen at hs
 obtain ⟨n,hn⟩:∃n,n=rcnt s s.size 0:=⟨_,rfl⟩
 rw [←hn] at hle ⊢
 go_enter Tryd.func101,Tryd.ntmps101
 go_wp2_with fail
 go_loopw [3] (fun s3 wr=>∃(pos f acc:Nat),wr=w.iter s pos∧s3= .int .i64 (acc:Int)∧acc+rcnt s f pos=n∧s.size≤pos+f) (fun _ wr=>s.size - wr.iterPos w.heap.size)
 case atStart=>exact ⟨0,s.size,0,rfl,rfl,by omega,by omega⟩
 case round=>
  obtain ⟨pos,f,acc,rfl,rfl,hc,hf⟩:=hrel
  by_cases hp:pos<s.size
  ·have hnx:∀ty,(Instr.next (.pointer (some ⟨w.heap.size,0,none⟩)) true ty).run Tryd.prog (w.iter s pos)=_:=fun ty=>run_next_any w s pos ty hp
   have hwd:=width_pos s pos hp
   obtain ⟨f,rfl⟩:∃f',f=f'+1:=⟨f - 1,by omega⟩
   simp only [rcnt,if_pos hp] at hc
   have hac:IntKind.i64.wrap ((acc:Int)+1)=((acc+1:Nat):Int):=by rw [IntWalk.i64_in _ (by omega)];omega
   have Hc:=Lib.hid hc
   clear hc
   go_wp2_with fail
   go_roundw
   case rel=>
    exact ⟨pos+(Utf8.decode s pos).2,f,acc+1,rfl,by first|rfl|go_num,by have:=Hc.out;omega,by omega⟩
   case measure=>simp;omega
  ·have hnx:∀ty,(Instr.next (.pointer (some ⟨w.heap.size,0,none⟩)) true ty).run Tryd.prog (w.iter s pos)=_:=fun ty=>run_next_end w s pos ty hp
   rw [rcnt_end s f pos hp] at hc
   obtain rfl:acc=n:=by omega
   go_wp2_with fail
   go_ret
   exact ⟨rfl,by unfold World.iter;exact blw⟩
set_option maxHeartbeats 4000000 in
theorem clean_any (s:ByteArray) (w:World) (hs:s.size≤maxLen) (hT:Tabs w):Calls Tryd.prog 102 #[.string s] w (Gives w (.bool (rclean s s.size 0))):=by
 obtain ⟨R,hR⟩:∃R,R=rclean s s.size 0:=⟨_,rfl⟩
 rw [←hR]
 have HT:=Lib.hid hT
 clear hT
 go_enter Tryd.func102,Tryd.ntmps102
 go_wp2_with fail
 go_loopw [3] (fun s3 wr=>∃(pos f:Nat),wr.heap[w.heap.size]? =some (.stringIter s pos)∧Below w.heap.size w wr∧R=rclean s f pos∧s.size≤pos+f) (fun _ wr=>s.size - wr.iterPos w.heap.size)
 case atStart=>exact ⟨0,s.size,World.iter_heap _ _ _,by unfold World.iter;exact blw,hR,by omega⟩
 case round=>
  obtain ⟨pos,f,hit,hbr,hc,hf⟩:=hrel
  have zb:=hbr.size
  by_cases hp:pos<s.size
  ·have hnx:∀ty,(Instr.next (.pointer (some ⟨w.heap.size,0,none⟩)) true ty).run Tryd.prog wr= .ok (.tuple #[.bool true,.int .i64 pos,.int .i32 (Utf8.decode s pos).1]) (wr.iterAt w.heap.size s (pos+(Utf8.decode s pos).2)):=fun ty=>Lib.run_next_any_at wr w.heap.size s pos ty hit hp
   have halone:∀W,Below w.heap.size w W→Calls Tryd.prog 109 #[.string s,.int .i64 (pos:Int),.int .i32 ((Utf8.decode s pos).1:Int)] W (Gives W (.bool (lone s pos))):=fun W h=>alone_any s pos W hp hs (HT.out.keep h)
   have hwd:=width_pos s pos hp
   obtain ⟨f,rfl⟩:∃f',f=f'+1:=⟨f - 1,by omega⟩
   simp only [rclean,if_pos hp,rbad] at hc
   have hbi:Below w.heap.size w (wr.iterAt w.heap.size s (pos+(Utf8.decode s pos).2)):=Lib.below_iterAt hbr (Nat.le_refl _) s _
   have hit2:=Lib.iterAt_heap wr w.heap.size s pos (pos+(Utf8.decode s pos).2) hit
   have hlt:w.heap.size<(wr.iterAt w.heap.size s (pos+(Utf8.decode s pos).2)).heap.size:=by rw [Lib.iterAt_size];exact (Array.getElem?_eq_some_iff.1 hit).1
   have hpos0:wr.iterPos w.heap.size=pos:=by simp [World.iterPos,hit]
   generalize lone s pos=lo at*
   generalize wr.iterAt w.heap.size s (pos+(Utf8.decode s pos).2)=wi at*
   generalize Utf8.decode s pos=y at*
   obtain ⟨c,l⟩:=y
   simp only at hc hwd hnx halone hit2
   have Hc:=Lib.hid hc
   have Hpos0:=Lib.hid hpos0
   clear hc hR hpos0
   by_cases h32:(c:Int)<32
   ·go_wp2_with fail
    go_ret
    exact ⟨by rw [Hc.out];simp;omega,blw⟩
   ·by_cases h127:(c:Int)=127
    ·have h127':((c:Int)==127)=true:=by simp [h127]
     go_wp2_with fail
     go_ret
     exact ⟨by rw [Hc.out];simp;omega,blw⟩
    ·have h127':((c:Int)==127)=false:=by simp [h127]
     cases lo
     ·go_wp2_with fail
      refine (halone _ hbi).mono ?_
      rintro e w1 ⟨rfl,hb1⟩
      have hit3:w1.heap[w.heap.size]? =some (.stringIter s (pos+l)):=(hb1.block _ hlt).trans hit2
      have hpos3:w1.iterPos w.heap.size=pos+l:=by simp [World.iterPos,hit3]
      have hb3:=below_call hbi hb1 hbi.size
      have Hp3:=Lib.hid hpos3
      clear hpos3
      go_wp2_with fail
      go_roundw
      case rel=>exact ⟨pos+l,f,hit3,hb3,(by rw [Hc.out];simp;omega),by omega⟩
      case measure=>rw [Hp3.out,Hpos0.out];omega
     ·go_wp2_with fail
      refine (halone _ hbi).mono ?_
      rintro e w1 ⟨rfl,hb1⟩
      have hb3:=below_call hbi hb1 hbi.size
      go_wp2_with fail
      go_ret
      exact ⟨by rw [Hc.out];simp,hb3⟩
  ·have hnx:∀ty,(Instr.next (.pointer (some ⟨w.heap.size,0,none⟩)) true ty).run Tryd.prog wr= .ok (.tuple #[.bool false]) wr:=fun ty=>Lib.run_next_end_at wr w.heap.size s pos ty hit hp
   rw [rclean_end s f pos hp] at hc
   subst hc
   clear hR
   go_wp2_with fail
   go_ret
   exact ⟨rfl,hbr⟩
/-- What is wrong with a beginning; with a key. -/
def rbeg (s:ByteArray):Nat:=if decide (32<rcnt s s.size 0)|| !rclean s s.size 0 then 11 else 0
def rkey (s:ByteArray):Nat:=if s.toList=[] then 11 else rbeg s
set_option maxHeartbeats 2000000 in
theorem beginning_any (s:ByteArray) (w:World) (hs:s.size≤maxLen) (hT:Tabs w):Calls Tryd.prog 90 #[.string s] w (Gives w (.int .i64 (rbeg s:Int))):=by
 have hc:=fun W=>count_any s W hs
 have hl:∀W,Below w.heap.size w W→Calls Tryd.prog 102 #[.string s] W (Gives W (.bool (rclean s s.size 0))):=fun W h=>clean_any s W hs (hT.keep h)
 obtain ⟨R,hR⟩:∃R,R=rbeg s:=⟨_,rfl⟩
 rw [←hR]
 unfold rbeg at hR
 generalize rcnt s s.size 0=n at*
 generalize rclean s s.size 0=b at*
 have HR:=Lib.hid hR
 clear hR
 clear hT
 by_cases h:32<n
 ·have h':(32:Int)<(n:Int):=by omega
  go_enter Tryd.func90,Tryd.ntmps90
  go_wp2_with fail
  refine (hc _).mono ?_
  rintro e w1 ⟨rfl,hb1⟩
  go_wp2_with fail
  go_ret
  exact ⟨by rw [HR.out];simp [h],blw⟩
 ·have h':¬(32:Int)<(n:Int):=by omega
  cases b
  ·go_enter Tryd.func90,Tryd.ntmps90
   go_wp2_with fail
   refine (hc _).mono ?_
   rintro e w1 ⟨rfl,hb1⟩
   go_wp2_with fail
   refine (hl _ hb1).mono ?_
   rintro e w2 ⟨rfl,hb2⟩
   have z1:=hb1.size
   go_wp2_with fail
   go_ret
   exact ⟨by rw [HR.out];simp [h],blw⟩
  ·go_enter Tryd.func90,Tryd.ntmps90
   go_wp2_with fail
   refine (hc _).mono ?_
   rintro e w1 ⟨rfl,hb1⟩
   go_wp2_with fail
   refine (hl _ hb1).mono ?_
   rintro e w2 ⟨rfl,hb2⟩
   have z1:=hb1.size
   go_wp2_with fail
   go_ret
   exact ⟨by rw [HR.out];simp [h],blw⟩
theorem key_any (s:ByteArray) (w:World) (hs:s.size≤maxLen) (hT:Tabs w):Calls Tryd.prog 91 #[.string s] w (Gives w (.int .i64 (rkey s:Int))):=by
 have hb:=fun W (h:Below w.heap.size w W)=>beginning_any s W hs (hT.keep h)
 obtain ⟨R,hR⟩:∃R,R=rkey s:=⟨_,rfl⟩
 rw [←hR]
 unfold rkey at hR
 generalize rbeg s=n at*
 have HR:=Lib.hid hR
 clear hR
 clear hT
 by_cases h:s.toList=[]
 ·have h':(s.toList== [])=true:=by simp [h]
  go_enter Tryd.func91,Tryd.ntmps91
  go_wp2_with fail
  go_ret
  exact ⟨by rw [HR.out];simp [h],blw⟩
 ·have h':(s.toList== [])=false:=by simp [h]
  go_enter Tryd.func91,Tryd.ntmps91
  go_wp2_with fail
  refine (hb _ (Below.refl _ _)).mono ?_
  rintro e w1 ⟨rfl,hb1⟩
  go_wp2_with fail
  go_ret
  exact ⟨by rw [HR.out];simp [h],blw⟩
end Go.Proofs.YtlolnakeancenaaDoor
namespace Go.Proofs.YtlolnakeancenaaDoor
set_option linter.unusedVariables false
/-- How many bytes a number has, at least one. -/
def wid (v:Nat):Nat:=if h:v<256 then 1 else wid (v / 256)+1
termination_by v
decreasing_by omega
/-- A number's bytes, the highest first. -/
def be (v:Nat):List Nat:=if h:v<256 then [v] else be (v / 256)++ [v % 256]
termination_by v
decreasing_by omega
def form (v:Nat):List Nat:=if v<248 then [v] else (247+wid v) :: be v
def size (v:Nat):Nat:=if v<248 then 1 else 1+wid v
/-- What bytes are as a number, the highest first. -/
def beval (l:List Nat):Nat:=l.foldl (fun v c=>v*256+c) 0
theorem wid_lt {v:Nat} (h:v<256):wid v=1:=by rw [wid,dif_pos h]
theorem wid_ge {v:Nat} (h:256≤v):wid v=wid (v / 256)+1:=by rw [wid,dif_neg (by omega)]
theorem be_lt {v:Nat} (h:v<256):be v=[v]:=by rw [be,dif_pos h]
theorem be_ge {v:Nat} (h:256≤v):be v=be (v / 256)++ [v % 256]:=by rw [be,dif_neg (by omega)]
theorem wid_pos (v:Nat):1≤wid v:=by rw [wid];split <;> omega
theorem be_length (v:Nat):(be v).length=wid v:=by
  induction v using Nat.strongRecOn with
  |_ v ih=>
    rcases Nat.lt_or_ge v 256 with h|h
    · rw [be_lt h,wid_lt h];rfl
    · rw [be_ge h,wid_ge h,List.length_append,ih _ (by omega)];rfl
theorem beval_snoc (l:List Nat) (c:Nat):beval (l++ [c])=beval l*256+c:=by simp [beval]
theorem beval_be (v:Nat):beval (be v)=v:=by
  induction v using Nat.strongRecOn with
  |_ v ih=>
    rcases Nat.lt_or_ge v 256 with h|h
    · rw [be_lt h];simp [beval]
    · rw [be_ge h,beval_snoc,ih _ (by omega)];omega
theorem snocInd {P:List Nat→Prop} (h0:P []) (h1:∀l c,P l→P (l++ [c])) (l:List Nat):P l:=by
  rw [←List.reverse_reverse l]
  generalize l.reverse=r
  induction r with
  |nil=>exact h0
  |cons c r ih=>rw [List.reverse_cons];exact h1 _ c ih
theorem beval_lt (l:List Nat) (hl:∀c∈l,c<256):beval l<256 ^ l.length:=by
  revert hl
  refine snocInd (P:=fun l=>(∀c∈l,c<256)→beval l<256 ^ l.length) ?_ ?_ l
  · intro _;simp [beval]
  · intro l c ih hl
    have h1:=ih (fun x hx=>hl x (by simp [hx]))
    have h2:=hl c (by simp)
    rw [beval_snoc,List.length_append,List.length_singleton,Nat.pow_succ]
    omega
theorem wid_le {v n:Nat} (hn:1≤n) (h:v<256 ^ n):wid v≤n:=by
  induction n generalizing v with
  |zero=>omega
  |succ n ih=>
    rcases Nat.lt_or_ge v 256 with h1|h1
    · rw [wid_lt h1];omega
    · rw [wid_ge h1]
      have:v / 256<256 ^ n:=by rw [Nat.pow_succ] at h;omega
      rcases Nat.eq_zero_or_pos n with rfl|hp
      · simp at h;omega
      · have:=ih hp this;omega
theorem wid_bound {v:Nat} (h:v<2 ^ 64):wid v≤8:=wid_le (by omega) (by simpa using h)
/-- Bytes that are as many as their number has are its bytes. -/
theorem be_beval (l:List Nat) (hl:∀c∈l,c<256) (h:wid (beval l)=l.length):be (beval l)=l:=by
  revert hl h
  refine snocInd (P:=fun l=>(∀c∈l,c<256)→wid (beval l)=l.length→be (beval l)=l) ?_ ?_ l
  · intro _ h;have:=wid_pos (beval []);simp at h;omega
  · intro l c ih hl h
    have h2:=hl c (by simp)
    rw [beval_snoc] at h ⊢
    rcases Nat.lt_or_ge (beval l*256+c) 256 with h1|h1
    · rw [wid_lt h1] at h
      have:l=[]:=by
        simp at h;exact h
      subst this
      rw [be_lt h1];simp [beval]
    · rw [wid_ge h1,show (beval l*256+c) / 256=beval l by omega,List.length_append,List.length_singleton] at h
      rw [be_ge h1,show (beval l*256+c) / 256=beval l by omega,show (beval l*256+c) % 256=c by omega,ih (fun x hx=>hl x (by simp [hx])) (by omega)]
theorem size_form (v:Nat):(form v).length=size v:=by
  unfold form size
  split
  · rfl
  · rw [List.length_cons,be_length];omega
/-- The first n bytes of a number of w bytes. -/
def beTo (v w n:Nat):List Nat:=(List.range n).map fun i=>v / 256 ^ (w - 1 - i) % 256
theorem beTo_succ (v w n:Nat):beTo v w (n+1)=beTo v w n++ [v / 256 ^ (w - 1 - n) % 256]:=by
  simp [beTo,List.range_succ]
theorem beTo_shift (v w n:Nat) (h:n≤w):beTo v (w+1) n=beTo (v / 256) w n:=by
  unfold beTo
  apply List.map_congr_left
  intro i hi
  have hi':i<n:=by simpa using hi
  rw [show w+1 - 1 - i=(w - 1 - i)+1 by omega,Nat.pow_succ,Nat.mul_comm,Nat.div_div_eq_div_mul]
theorem beTo_wid (v:Nat):beTo v (wid v) (wid v)=be v:=by
  induction v using Nat.strongRecOn with
  |_ v ih=>
    rcases Nat.lt_or_ge v 256 with h|h
    · rw [be_lt h,wid_lt h]
      simp [beTo]
      omega
    · rw [be_ge h,wid_ge h,beTo_succ,beTo_shift _ _ _ (Nat.le_refl _),ih _ (by omega)]
      simp
/-- How many halvings till nothing is left. -/
def bl (x:Nat):Nat:=if h:x=0 then 0 else 1+bl (x / 2)
termination_by x
decreasing_by omega
theorem bl_zero:bl 0=0:=by rw [bl,dif_pos rfl]
theorem bl_pos {x:Nat} (h:0<x):bl x=1+bl (x / 2):=by rw [bl,dif_neg (by omega)]
theorem bl_aux (f x:Nat) (h:x<2 ^ f):Go.Lib.bitLenAux f x=bl x:=by
  induction f generalizing x with
  | zero => have : x = 0 := by simpa using h
            subst this;rw [bl_zero];rfl
  |succ f ih=>
    rw [Go.Lib.bitLenAux]
    split
    · rename_i h0;rw [h0,bl_zero]
    · rw [bl_pos (by omega),ih (x / 2) (by rw [Nat.pow_succ] at h;omega)]
theorem bl_le (k x:Nat) (h:x<2 ^ k):bl x≤k:=by
  induction k generalizing x with
  | zero => have : x = 0 := by simpa using h
            subst this;rw [bl_zero];omega
  |succ k ih=>
    rcases Nat.eq_zero_or_pos x with rfl|h0
    · rw [bl_zero];omega
    · rw [bl_pos h0];have:=ih (x / 2) (by rw [Nat.pow_succ] at h;omega);omega
theorem bl_shift (x:Nat) (h:256≤x):bl x=bl (x / 256)+8:=by
  rw [bl_pos (by omega),bl_pos (x:=x / 2) (by omega),bl_pos (x:=x / 2 / 2) (by omega),bl_pos (x:=x / 2 / 2 / 2) (by omega),bl_pos (x:=x / 2 / 2 / 2 / 2) (by omega),
    bl_pos (x:=x / 2 / 2 / 2 / 2 / 2) (by omega),bl_pos (x:=x / 2 / 2 / 2 / 2 / 2 / 2) (by omega),bl_pos (x:=x / 2 / 2 / 2 / 2 / 2 / 2 / 2) (by omega),
    show x / 2 / 2 / 2 / 2 / 2 / 2 / 2 / 2=x / 256 by omega]
  omega
/-- What the code reckons by the number's bits. -/
theorem wid_bl (v:Nat):max 1 ((bl v+7) / 8)=wid v:=by
  induction v using Nat.strongRecOn with
  |_ v ih=>
    rcases Nat.lt_or_ge v 256 with h|h
    · have:=bl_le 8 v (by omega)
      rw [wid_lt h];omega
    · have h1:=ih (v / 256) (by omega)
      have h2:1≤bl (v / 256):=by rw [bl_pos (by omega)];omega
      rw [wid_ge h,←h1,bl_shift v h]
      omega
theorem wid_bits {v:Nat} (h:v<2 ^ 64):max 1 ((Go.Lib.bitLen v+7) / 8)=wid v:=by
  unfold Go.Lib.bitLen
  rw [bl_aux 64 v h,wid_bl]
/-- What is taken of bytes: the number, how many bytes, an error's number. -/
def ntake (l:List Nat):Nat × Nat × Nat:=
  match l with
  | []=>(0,0,2)
  |b0 :: r=>
    if b0<248 then (b0,1,0)
    else if r.length<b0 - 247 then (0,0,2)
    else if size (beval (r.take (b0 - 247)))=1+(b0 - 247) then (beval (r.take (b0 - 247)),1+(b0 - 247),0) else (0,0,4)
theorem ntake_form (v:Nat) (rest:List Nat):ntake (form v++rest)=(v,size v,0):=by
  unfold form size
  split
  · rename_i h
    simp [ntake,h]
  · rename_i h
    have hw:=wid_pos v
    simp only [List.cons_append,ntake]
    rw [if_neg (by omega),if_neg (by simp [be_length])]
    have e:(be v++rest).take (247+wid v - 247)=be v:=by
      rw [show 247+wid v - 247=(be v).length by rw [be_length];omega]
      exact List.take_left
    rw [e,beval_be]
    have hs:size v=1+wid v:=by unfold size;rw [if_neg h]
    rw [hs,if_pos (by omega)]
    simp
/-- The document's way to tell whether the form is right. -/
theorem form_iff {b0 : Nat} {r : List Nat} (hb0 : b0 < 256) (hr : ∀ c ∈ r, c < 256) (h248 : 248 ≤ b0) (hl : b0 - 247 ≤ r.length) :
    form (beval (r.take (b0 - 247)))=b0 :: r.take (b0 - 247)↔size (beval (r.take (b0 - 247)))=1+(b0 - 247):=by
  have hlen:(r.take (b0 - 247)).length=b0 - 247:=by rw [List.length_take];omega
  constructor
  · intro h
    rw [←size_form,h,List.length_cons,hlen];omega
  · intro h
    unfold size at h
    unfold form
    split at h
    · omega
    · rename_i hv
      have hw:wid (beval (r.take (b0 - 247)))=(r.take (b0 - 247)).length:=by rw [hlen];omega
      rw [if_neg hv,be_beval _ (fun c hc=>hr c (List.mem_of_mem_take hc)) hw,hw,hlen,show 247+(b0 - 247)=b0 by omega]
end Go.Proofs.YtlolnakeancenaaDoor
namespace Go.Proofs.YtlolnakeancenaaDoor
open Go.RowKit
set_option linter.unusedVariables false
set_option linter.unusedSimpArgs false
set_option maxRecDepth 20000
attribute [local go_sem ↓] Go.wp_at_zero Go.wp_at_succ
attribute [local go_sem] World.cell?_alloc_some frozen_alloc_some
attribute [local go_sem] lt2 lt3 lt4 lt5
attribute [local simp] lt2 lt3 lt4 lt5
theorem wrap_u8 (n:Int):IntKind.u8.wrap n=n % 256:=by simp [IntKind.wrap,IntKind.bits,IntKind.signed]
theorem info_u8:(Tryd.prog.info? 5).map (fun i=>(i.zero,i.size,i.bytes))=some (some (.int .u8 0),1,1):=by kernel_rfl
set_option maxHeartbeats 1000000 in
theorem wide_any (v:Nat) (w:World) (hv:v<2 ^ 64):Calls Tryd.prog 97 #[.int .u64 (v:Int)] w (Gives w (.int .i64 (wid v:Int))):=by
 have hw:=wid_bits hv
 have hl:∀W:World,Calls Tryd.prog 106 #[.int .u64 (v:Int)] W fun e w'=>e= .returned (.int .i64 ((Go.Lib.bitLen v:Nat):Int))∧W=w':=fun W=>
  (Tryd.bits_Len64 (v:Int) W (by omega) (by omega)).mono fun e w' ⟨h1,h2⟩=>⟨by simpa using h1,h2.symm⟩
 have hb:Go.Lib.bitLen v≤64:=by
  have:=wid_bound hv
  omega
 have Hw:=Lib.hid hw
 clear hw
 generalize Go.Lib.bitLen v=b at*
 go_enter Tryd.func97,Tryd.ntmps97
 go_wp2_with (go_at_call 106;(with_reducible refine (hl _).mono ?_);rintro e w' ⟨rfl,rfl⟩)
 go_ret
 refine ⟨ret_int ?_,Below.refl _ _⟩
 rw [←Hw.out]
 first|omega|(simp;omega)|trace_state
set_option maxHeartbeats 1000000 in
theorem size_any (v:Nat) (w:World) (hv:v<2 ^ 64):Calls Tryd.prog 107 #[.int .u64 (v:Int)] w (Gives w (.int .i64 (size v:Int))):=by
 have hw:=wid_bound hv
 have hs:size v=if v<248 then 1 else 1+wid v:=rfl
 have Hs:=Lib.hid hs
 have hwd:∀W,Calls Tryd.prog 97 #[.int .u64 (v:Int)] W (Gives W (.int .i64 (wid v:Int))):=fun W=>wide_any v W hv
 clear hs
 generalize wid v=n at*
 have hv1:(v:Int)≤18446744073709551615:=by omega
 have Hv:=Lib.hid hv
 clear hv
 by_cases h:v<248
 ·go_enter Tryd.func107,Tryd.ntmps107
  go_wp2_with fail
  go_ret
  refine ⟨ret_int ?_,Below.refl _ _⟩
  rw [Hs.out,if_pos h];rfl
 ·go_enter Tryd.func107,Tryd.ntmps107
  go_wp2_with (go_at_call 97;(with_reducible refine (hwd _).mono ?_);rintro e w1 ⟨rfl,hbw1⟩;have hzw1:=hbw1.size)
  go_ret
  refine ⟨ret_int ?_,blw⟩
  rw [Hs.out,if_neg h];omega
/-- One byte more behind a row of the call's own: the append of the code's 'append(b, x)'. -/
theorem onto_one {w w1 w2:World} {base:Nat} {b b1 b2:Value} {l l1:List Nat} {c:Nat} {o:Obj} (h:Onto w base 5 b l w1 b1 l1) (hc:c<256)
  (hown:w2.ownsRow base 5 1 b2 (l1.length+1) (u8s l1++ [.int .u8 (c:Int)])) (hg:(w1.alloc o).grownBy w2 b1.ownBlock) (hat:b2.ownBlock=b1.ownBlock∨b2.ownBlock=some (w1.alloc o).heap.size)
  (hold:w2.ownsRow base 5 1 b1 l1.length (u8s l1)):Onto w base 5 b l w2 b2 (l1++ [c]):=
 (h.keep (below_one o)).step (m:=[c]) hown (by simpa using hc) hg hat hold
set_option maxHeartbeats 2000000 in
theorem put_any (b:Value) (l:List Nat) (base v:Nat) (w:World) (hb:OwnB w base 5 b l) (hbase:base≤w.heap.size) (hl:l.length≤1000000000) (hv:v<2 ^ 64):
  Calls Tryd.prog 73 #[b,.int .u64 (v:Int)] w (Appends w base 5 b l (form v)):=by
 obtain ⟨i0,hi,hz0,hz1,hz2⟩:=info_parts info_u8
 have honto:=Onto.refl hb
 by_cases h:v<248
 ·have hf:form v=[v]:=by unfold form;rw [if_pos h]
  rw [hf]
  have hc:IntKind.u8.wrap (v:Int)=(v:Int):=by rw [wrap_u8];omega
  have hown0:=(hb.keep (below_one (.cells #[.int .u8 (v:Int)] 5))).1
  have hsrc:Src (w.alloc (.cells #[.int .u8 (v:Int)] 5)) 1 (some ⟨w.heap.size,0,none⟩) 1 [.int .u8 (v:Int)]:=src_one rfl
  go_enter Tryd.func73,Tryd.ntmps73
  go_wp2_with (at_builtin;go_loud (refine wpList_app _ rfl (.tmp 9) (.tmp 12) 28 rfl _ 5 i0 _ 1 1 Tryd.underlying28 hi hz0 hz1 hz2 rfl (by omega) _ _ _ rfl hown0 _ _ _ _ rfl hsrc ?h63 ?hby ?hbase ?_);(case h63=>(unfold maxLen;first|omega|(simp;done)|(simp;omega)));(case hby=>first|omega|(simp;done)|(simp;omega));(case hbase=>first|omega|(simp;done)|(simp;omega));intro v' w1 hownw1 hgroww1 hatw1 holdw1)
  go_ret
  exact ⟨_,rfl,onto_one honto (by omega) hownw1 hgroww1 hatw1 holdw1⟩
 ·have hf:form v=(247+wid v) :: be v:=by unfold form;rw [if_neg h]
  have hw8:=wid_bound hv
  have hw1:=wid_pos v
  have hbt:=beTo_wid v
  have Hf:=Lib.hid hf
  have Hbt:=Lib.hid hbt
  have hwd:∀W,Calls Tryd.prog 97 #[.int .u64 (v:Int)] W (Gives W (.int .i64 (wid v:Int))):=fun W=>wide_any v W hv
  clear hf hbt
  generalize wid v=n at*
  have hc:IntKind.u8.wrap (247+(n:Int))=((247+n:Nat):Int):=by rw [wrap_u8];omega
  have hsrc:∀W:World,Src (W.alloc (.cells #[.int .u8 ((247+n:Nat):Int)] 5)) 1 (some ⟨W.heap.size,0,none⟩) 1 [.int .u8 ((247+n:Nat):Int)]:=fun W=>src_one rfl
  go_enter Tryd.func73,Tryd.ntmps73
  go_wp2_with (first
   |(go_at_call 97;(with_reducible refine (hwd _).mono ?_);rintro e w0 ⟨rfl,hbw0⟩;have hzw0:=hbw0.size;have hon0:=honto.keep hbw0;have hown0:=(hon0.own.keep (below_one (.cells #[.int .u8 ((247+n:Nat):Int)] 5))).1)
   |(at_builtin;go_loud (refine wpList_app _ rfl (.tmp 16) (.tmp 20) 28 rfl _ 5 i0 _ 1 1 Tryd.underlying28 hi hz0 hz1 hz2 rfl (by omega) _ _ _ rfl hown0 _ _ _ _ rfl (hsrc _) ?h63 ?hby ?hbase ?_);(case h63=>(unfold maxLen;first|omega|(simp;done)|(simp;omega)));(case hby=>first|omega|(simp;done)|(simp;omega));(case hbase=>first|omega|(simp;done)|(simp;omega));intro v' w1 hownw1 hgroww1 hatw1 holdw1))
  have hon1:=onto_one (c:=247+n) hon0 (by omega) hownw1 hgroww1 hatw1 holdw1
  clear hownw1 hgroww1 hatw1 holdw1 hon0 hown0 hbw0 hzw0
  go_loopw [0,23] (fun s0 s23 wr=>∃k:Nat,k≤n∧s23= .int .i64 k∧Onto w base 5 b l wr s0 (l++ [247+n]++beTo v n k)) (fun _ s23 _=>n - (intOf s23).toNat)
  case atStart=>exact ⟨0,by omega,rfl,by simpa [beTo] using hon1⟩
  case round=>
   obtain ⟨k,hk,rfl,hon⟩:=hrel
   by_cases hlt:k<n
   ·obtain ⟨d,hd⟩:∃d,d=v / 256 ^ (n - 1 - k) % 256:=⟨_,rfl⟩
    have hdb:(v:Int) / 2 ^ (8*(n - 1 - k)) % 256=(d:Int):=by
     have h2:(2:Int) ^ (8*(n - 1 - k))=((256 ^ (n - 1 - k):Nat):Int):=by
      rw [Int.pow_mul];simp [Int.natCast_pow]
     rw [h2,hd]
     omega
    have hd2:d<256:=by omega
    have hnx:beTo v n (k+1)=beTo v n k++ [d]:=by rw [beTo_succ,hd]
    have Hnx:=Lib.hid hnx
    clear hnx hd
    have hsz:1≤n:=hw1
    have hown1:=(hon.own.keep (below_one (.cells #[.int .u8 (d:Int)] 5))).1
    have hzr:=hon.grown.size
    have hll:(l++ [247+n]++beTo v n k).length≤l.length+9:=by simp [beTo];omega
    have hsrc1:Src (wr.alloc (.cells #[.int .u8 (d:Int)] 5)) 1 (some ⟨wr.heap.size,0,none⟩) 1 [.int .u8 (d:Int)]:=src_one rfl
    obtain ⟨l1,hl1⟩:∃l1,l1=l++ [247+n]++beTo v n k:=⟨_,rfl⟩
    have Hl1:=Lib.hid hl1
    rw [←hl1] at hon hown1 hll
    clear hl1
    go_wp2_with (at_builtin;go_loud (refine wpList_app _ rfl (.tmp 26) (.tmp 36) 28 rfl _ 5 i0 _ 1 1 Tryd.underlying28 hi hz0 hz1 hz2 rfl (by omega) _ _ _ rfl hown1 _ _ _ _ rfl hsrc1 ?h63 ?hby ?hbase ?_);(case h63=>(unfold maxLen;first|omega|(simp;done)|(simp;omega)));(case hby=>first|omega|(simp;done)|(simp;omega));(case hbase=>first|omega|(simp;done)|(simp;omega));intro v2 w2 hownw2 hgroww2 hatw2 holdw2)
    have hon2:=onto_one hon hd2 hownw2 hgroww2 hatw2 holdw2
    go_roundw
    case rel=>exact ⟨k+1,by omega,by go_num,by rw [Hnx.out,←List.append_assoc,←Hl1.out];exact hon2⟩
    case measure=>simp [intOf];omega
   ·have hkn:k=n:=by omega
    have hlast:l++ [247+n]++beTo v n k=l++form v:=by rw [hkn,Hbt.out,Hf.out];simp
    rw [hlast] at hon
    clear hkn hlast
    go_wp2_with fail
    go_ret
    exact ⟨_,rfl,hon⟩
end Go.Proofs.YtlolnakeancenaaDoor
namespace Go.Proofs.YtlolnakeancenaaDoor
open Go.RowKit
set_option linter.unusedVariables false
set_option linter.unusedSimpArgs false
set_option maxRecDepth 20000
attribute [local go_sem ↓] Go.wp_at_zero Go.wp_at_succ
attribute [local go_sem] World.cell?_alloc_some frozen_alloc_some
attribute [local go_sem] lt2 lt3 lt4 lt5
attribute [local simp] lt2 lt3 lt4 lt5
def takeV (l:List Nat):Value:=.tuple #[.int .u64 ((ntake l).1:Int),.int .i64 ((ntake l).2.1:Int),.int .i64 ((ntake l).2.2:Int)]
theorem pow7 {k:Nat} (h:k≤7):256 ^ k≤72057594037927936:=by
 have:256 ^ k≤256 ^ 7:=Nat.pow_le_pow_right (by decide) h
 omega
set_option maxHeartbeats 2000000 in
theorem take_any (A:Option Addr) (n cap:Nat) (l:List Nat) (w:World) (hb:Bytes w A n l):
  Calls Tryd.prog 98 #[.slice A n cap] w (Gives w (takeV l)):=by
 have hln:=hb.1
 have hm:=hb.2.1
 unfold maxLen at hm
 cases l with
 |nil=>
  have hn0:n=0:=by simpa using hln
  subst hn0
  have hv:takeV []= .tuple #[.int .u64 0,.int .i64 0,.int .i64 2]:=rfl
  rw [hv]
  clear hv hln
  go_enter Tryd.func98,Tryd.ntmps98
  go_wp2_with fail
  go_ret3
  exact ⟨rfl,Below.refl _ _⟩
 |cons b0 r=>
  have hn1:0<n:=by simp at hln;omega
  obtain ⟨ad,c0,rfl,hc0,hc2,hcell⟩:=hb.at_ hn1
  have hcb:c0=b0:=by simpa using hc0.symm
  subst hcb
  have hcell0:w.cell? ad=some (.int .u8 (c0:Int)):=by simpa [Addr.add] using hcell
  clear hcell
  have hnz:((n:Int)==0)=false:=by simp;omega
  have hi0:(0:Int)<(n:Int):=by omega
  by_cases h248:c0<248
  ·have hv:takeV (c0 :: r)= .tuple #[.int .u64 (c0:Int),.int .i64 1,.int .i64 0]:=by simp [takeV,ntake,h248]
   rw [hv]
   clear hv hln hc0
   go_enter Tryd.func98,Tryd.ntmps98
   go_wp2_with fail
   go_ret3
   exact ⟨rfl,Below.refl _ _⟩
  ·by_cases hsh:r.length<c0 - 247
   ·have hv:takeV (c0 :: r)= .tuple #[.int .u64 0,.int .i64 0,.int .i64 2]:=by simp [takeV,ntake,h248,hsh]
    rw [hv]
    have hle:(n:Int)≤(c0:Int) - 247:=by simp at hln;omega
    clear hv hln hc0
    go_enter Tryd.func98,Tryd.ntmps98
    go_wp2_with fail
    all_goals go_ret3
    all_goals exact ⟨rfl,Below.refl _ _⟩
   ·obtain ⟨m,hm1⟩:∃m,c0=m+247:=⟨c0 - 247,by omega⟩
    subst hm1
    have hm8:m≤8:=by omega
    have hm0:1≤m:=by omega
    have hml:m<n:=by simp at hln;omega
    have hrl:m≤r.length:=by omega
    have hbr:∀c∈r,c<256:=fun c hc=>hb.lt c (by simp [hc])
    have hsz:∀W,Calls Tryd.prog 107 #[.int .u64 ((beval (r.take m):Nat):Int)] W (Gives W (.int .i64 ((size (beval (r.take m)):Nat):Int))):=fun W=>size_any _ W (by
     have h1:=beval_lt (r.take m) (fun c hc=>hbr c (List.mem_of_mem_take hc))
     have h2:(r.take m).length≤8:=by rw [List.length_take];omega
     have h3:256 ^ (r.take m).length≤256 ^ 8:=Nat.pow_le_pow_right (by decide) h2
     have h4:256 ^ 8=2 ^ 64:=by decide
     omega)
    have hv:takeV ((m+247) :: r)=if size (beval (r.take m))=1+m then .tuple #[.int .u64 ((beval (r.take m):Nat):Int),.int .i64 ((1+m:Nat):Int),.int .i64 0] else .tuple #[.int .u64 0,.int .i64 0,.int .i64 4]:=by
     simp only [takeV,ntake,if_neg h248,Nat.add_sub_cancel]
     rw [if_neg (by omega)]
     split <;> rfl
    have Hv:=Lib.hid hv
    have Hsz:=Lib.hid hsz
    clear hv hln hc0 hsz
    have hm5:(m:Int)+247 - 248+1=m:=by omega
    go_enter Tryd.func98,Tryd.ntmps98
    go_wp2_with fail
    go_loop [2,29] (fun s2 s29=>∃k:Nat,k≤m∧s29= .int .i64 k∧s2= .int .u64 ((beval (r.take k):Nat):Int)) (fun _ s29=>m - (intOf s29).toNat)
    case atStart=>exact ⟨0,by omega,rfl,by simp [beval]⟩
    case round=>
     obtain ⟨k,hk,rfl,rfl⟩:=hrel
     by_cases hlt:k<m
     ·obtain ⟨ad',c1,e1,hc1,hc3,hcell1⟩:=hb.at_ (show 1+k<n by omega)
      cases e1
      have hx:=beval_lt (r.take k) (fun c hc=>hbr c (List.mem_of_mem_take hc))
      have hx2:beval (r.take k)<72057594037927936:=by
       have h1:(r.take k).length=k:=by rw [List.length_take];omega
       rw [h1] at hx
       have:=pow7 (k:=k) (by omega)
       omega
      have hrk:r[k]? =some c1:=by
       rw [show 1+k=k+1 by omega] at hc1
       simpa using hc1
      have hnx:beval (r.take (k+1))=beval (r.take k)*256+c1:=by
       rw [List.take_add_one,hrk]
       exact beval_snoc _ _
      have Hnx:=Lib.hid hnx
      clear hnx hx hrk hc1
      generalize beval (r.take k)=x at*
      go_wp2_with fail
      go_round
      case rel=>
       refine ⟨k+1,by omega,by go_num,?_⟩
       rw [Hnx.out]
       have ho:=u64_or_nat (x*256) c1 (by omega) (by omega)
       rw [nat_join 8 (x*256) c1 (by omega) (by omega)] at ho
       rw [←ho]
       congr 2
      case measure=>simp [intOf];omega
     ·have hkm:k=m:=by omega
      have hbk:beval (r.take k)=beval (r.take m):=by rw [hkm]
      rw [hbk]
      have hs2:=Hsz.out
      clear hbk hkm
      by_cases hsz:size (beval (r.take m))=1+m
      ·have Hv2:=Hv.out
       rw [if_pos hsz] at Hv2
       rw [hsz] at hs2
       have hne:(((1+m:Nat):Int) != 1+(m:Int))=false:=by simp
       have Hsz2:=Lib.hid hsz
       have Hv3:=Lib.hid Hv2
       clear hsz Hv Hv2
       generalize beval (r.take m)=x at*
       go_wp2_with (go_at_call 107;(with_reducible refine (hs2 _).mono ?_);rintro e w1 ⟨rfl,hbw1⟩)
       all_goals go_ret3
       all_goals exact ⟨by rw [Hv3.out];simp,blw⟩
      ·have Hv2:=Hv.out
       rw [if_neg hsz] at Hv2
       have Hv3:=Lib.hid Hv2
       have hne:(((size (beval (r.take m)):Nat):Int) != 1+(m:Int))=true:=by rw [bne_iff_ne];omega
       clear hsz Hv Hv2
       generalize size (beval (r.take m))=s at*
       generalize beval (r.take m)=x at*
       go_wp2_with (go_at_call 107;(with_reducible refine (hs2 _).mono ?_);rintro e w1 ⟨rfl,hbw1⟩)
       all_goals go_ret3
       all_goals exact ⟨by rw [Hv3.out];simp,blw⟩
end Go.Proofs.YtlolnakeancenaaDoor
namespace Go.Proofs.YtlolnakeancenaaDoor
open Go.RowKit
set_option linter.unusedVariables false
set_option linter.unusedSimpArgs false
set_option maxRecDepth 20000
attribute [local go_sem ↓] Go.wp_at_zero Go.wp_at_succ
attribute [local go_sem] World.cell?_alloc_some frozen_alloc_some
attribute [local go_sem] lt2 lt3 lt4 lt5
attribute [local simp] lt2 lt3 lt4 lt5
/-- A literal row of bytes is of the call's own. -/
theorem OwnB.lit {w : World} {base : Nat} {e : TypeId} {l : List Nat} (hb : base ≤ w.heap.size) (hm : l.length ≤ maxLen) (hl : ∀ c ∈ l, c < 256) :
    OwnB (w.alloc (.cells (u8s l).toArray e)) base e (.slice (some ⟨w.heap.size,0,none⟩) l.length l.length) l:=
  ⟨by simpa using World.ownsRow_lit (base:=base) (e:=e) (size:=1) w (u8s l).toArray l.length hb hm (by simp [u8s_length]),hl⟩
theorem wrap_u64 (n:Int):IntKind.u64.wrap n=n % 18446744073709551616:=by simp [IntKind.wrap,IntKind.bits,IntKind.signed]
end Go.Proofs.YtlolnakeancenaaDoor
namespace Go.Proofs.YtlolnakeancenaaDoor
set_option linter.unusedVariables false
inductive Tree where
 |mk (kind:Int) (n:Nat) (s:ByteArray) (l:List Tree)
instance:Inhabited Tree:=⟨.mk 0 0 ByteArray.empty []⟩
theorem Tree.ind {P:Tree→Prop} (h:∀k n s l,(∀t∈l,P t)→P (.mk k n s l)):∀t,P t
 | .mk k n s l=>h k n s l fun t ht=>Tree.ind h t
termination_by t=>SizeOf.sizeOf t
decreasing_by
 have:=List.sizeOf_lt_of_mem ht
 simp
 omega
/-- The bytes of a text. -/
def txt (s:ByteArray):List Nat:=s.data.toList.map UInt8.toNat
theorem txt_length (s:ByteArray):(txt s).length=s.size:=by rw [txt,List.length_map];rfl
theorem txt_lt (s:ByteArray):∀c∈txt s,c<256:=by
 intro c hc
 simp only [txt,List.mem_map] at hc
 obtain ⟨u,_,rfl⟩:=hc
 exact u.toNat_lt
/-- A node that is wrong by itself. -/
def bad (k:Int) (n:Nat) (s:ByteArray) (l:List Tree):Bool:=decide (¬(k=0∨k=1∨k=2)∨k≠0∧n≠0∨k≠1∧s.size≠0∨k≠2∧0<l.length)
mutual
/-- What is wrong with a tree that is nested so deep: an error's number. -/
def check:Tree→Nat→Nat
 | .mk k n s l,d=>if bad k n s l=true then 4 else if d=16 then 12 else checks l (d+1)
def checks:List Tree→Nat→Nat
 | [],_=>0
 |t :: l,d=>if check t d=0 then checks l d else check t d
end
mutual
/-- A tree's form. -/
def tform:Tree→List Nat
 | .mk k n s l=>if k=0 then 0 :: form n else if k=1 then 1 :: (form s.size++txt s) else 2 :: (form l.length++tforms l)
def tforms:List Tree→List Nat
 | []=>[]
 |t :: l=>tform t++tforms l
end
mutual
def tsize:Tree→Nat
 | .mk k n s l=>1+s.size+tsizes l
def tsizes:List Tree→Nat
 | []=>0
 |t :: l=>tsize t+tsizes l
end
theorem tforms_append (a b:List Tree):tforms (a++b)=tforms a++tforms b:=by
 induction a with
 |nil=>rfl
 |cons t a ih=>simp only [List.cons_append,tforms,ih,List.append_assoc]
theorem tforms_take {l:List Tree} {k:Nat} {t:Tree} (h:l[k]? =some t):tforms (l.take (k+1))=tforms (l.take k)++tform t:=by
 rw [List.take_add_one,h,tforms_append]
 simp [tforms]
theorem tsizes_append (a b:List Tree):tsizes (a++b)=tsizes a+tsizes b:=by
 induction a with
 |nil=>simp [tsizes]
 |cons t a ih=>simp only [List.cons_append,tsizes,ih];omega
theorem tsizes_mem {l:List Tree} {t:Tree} (h:t∈l):tsize t≤tsizes l:=by
 induction l with
 |nil=>cases h
 |cons u l ih=>
  simp only [tsizes]
  rcases List.mem_cons.1 h with rfl|h
  ·omega
  ·have:=ih h;omega
theorem tsizes_len (l:List Tree):l.length≤tsizes l:=by
 induction l with
 |nil=>simp
 |cons t l ih=>obtain ⟨k,n,s,m⟩:=t;simp only [List.length_cons,tsizes,tsize];omega
/-- The first that is wrong. -/
theorem checks_zero {l:List Tree} {d:Nat}:checks l d=0↔∀t∈l,check t d=0:=by
 induction l with
 |nil=>simp [checks]
 |cons t l ih=>
  simp only [checks]
  by_cases h:check t d=0
  ·rw [if_pos h,ih];simp [h]
  ·rw [if_neg h];simp [h]
theorem checks_first {l:List Tree} {d k:Nat} {t:Tree} (hk:l[k]? =some t) (h0:checks (l.take k) d=0) (h:check t d≠0):checks l d=check t d:=by
 induction l generalizing k with
 |nil=>simp at hk
 |cons u l ih=>
  cases k with
  |zero=>simp at hk;subst hk;simp only [checks];rw [if_neg h]
  |succ k=>
   simp only [List.take_succ_cons,checks] at h0
   by_cases hu:check u d=0
   ·rw [if_pos hu] at h0
    simp only [checks]
    rw [if_pos hu]
    exact ih (by simpa using hk) h0
   ·rw [if_neg hu] at h0;exact absurd h0 hu
theorem checks_take {l:List Tree} {d k:Nat} {t:Tree} (hk:l[k]? =some t) (h0:checks (l.take k) d=0) (h:check t d=0):checks (l.take (k+1)) d=0:=by
 rw [checks_zero] at h0 ⊢
 intro u hu
 rw [List.take_add_one,hk] at hu
 rcases List.mem_append.1 hu with hu|hu
 ·exact h0 u hu
 ·simp at hu;subst hu;exact h
/-- A right tree's node. -/
theorem check_node {k:Int} {n:Nat} {s:ByteArray} {l:List Tree} {d:Nat} (h:check (.mk k n s l) d=0):bad k n s l=false∧d≠16∧checks l (d+1)=0:=by
 simp only [check] at h
 split at h
 ·cases h
 ·rename_i hb
  split at h
  ·cases h
  ·rename_i hd
   exact ⟨by simpa using hb,hd,h⟩
theorem form_len {v:Nat} (h:v<2 ^ 64):(form v).length≤9:=by
 rw [size_form];have:=wid_bound h;unfold size;split <;> omega
end Go.Proofs.YtlolnakeancenaaDoor
namespace Go.Proofs.YtlolnakeancenaaDoor
open Go.RowKit Go.ChangeShapes Go.WideShapes Go.Joins Go.Deep
set_option linter.unusedVariables false
set_option linter.unusedSimpArgs false
set_option linter.unnecessarySimpa false
/-- The value is the tree t; what lies behind it in w. -/
inductive Holds (w:World):Tree→Value→Prop where
 |mk (k:Int) (n:Nat) (s:ByteArray) (l:List Tree) (A:Option Addr) (m c:Nat) (vs:Nat→Value)
  (hk:(Lit.int .i64 k).wf=true) (hn:n<2 ^ 64) (hs:s.size≤maxLen) (hm:m=l.length) (hmc:m≤c) (hc:c≤maxLen)
  (hcell:∀i,i<m→∃ad,A=some ad∧∀j u,(vs i).cells[j]? =some u→w.cell? (ad.add (4*i+j))=some u)
  (hsub:∀i t,l[i]? =some t→Holds w t (vs i)):
  Holds w (.mk k n s l) (.agg #[.int .i64 k,.int .u64 (n:Int),.string s,.slice A m c])
theorem Holds.keep {w w':World} (hb:Below w.heap.size w w') {t:Tree} {v:Value} (h:Holds w t v):Holds w' t v:=by
 induction h with
 |mk k n s l A m c vs hk hn hs hm hmc hc hcell hsub ih=>
  exact .mk k n s l A m c vs hk hn hs hm hmc hc (fun i hi=>by
   obtain ⟨ad,e,h⟩:=hcell i hi
   exact ⟨ad,e,fun j u hu=>cell_keep hb (h j u hu)⟩) ih
/-- One item of a list, field by field. -/
theorem Holds.open_ {w:World} {k:Int} {n:Nat} {s:ByteArray} {l:List Tree} {v:Value} (h:Holds w (.mk k n s l) v):
  ∃A m c,v= .agg #[.int .i64 k,.int .u64 (n:Int),.string s,.slice A m c]∧(Lit.int .i64 k).wf=true∧n<2 ^ 64∧s.size≤maxLen∧m=l.length∧m≤c∧c≤maxLen∧
   ∀i t,l[i]? =some t→∃ad u,A=some ad∧Holds w t u∧∀j x,u.cells[j]? =some x→w.cell? (ad.add (4*i+j))=some x:=by
 cases h with
 |mk k n s l A m c vs hk hn hs hm hmc hc hcell hsub=>
  refine ⟨A,m,c,rfl,hk,hn,hs,hm,hmc,hc,fun i t hi=>?_⟩
  have hil:i<m:=by
   rw [hm]
   rcases Nat.lt_or_ge i l.length with h|h
   ·exact h
   ·rw [List.getElem?_eq_none h] at hi;cases hi
  obtain ⟨ad,e,h⟩:=hcell i hil
  exact ⟨ad,vs i,e,hsub i t hi,h⟩
/-- An item's four cells. -/
theorem Holds.cells {w:World} {t:Tree} {v:Value} {a:Addr} (h:Holds w t v) (hc:∀j x,v.cells[j]? =some x→w.cell? (a.add j)=some x):
  ∃k n s A m c,v= .agg #[.int .i64 k,.int .u64 n,.string s,.slice A m c]∧w.cell? (a.add 0)=some (.int .i64 k)∧w.cell? (a.add 1)=some (.int .u64 n)∧w.cell? (a.add 2)=some (.string s)∧w.cell? (a.add 3)=some (.slice A m c):=by
 cases h with
 |mk k n s l A m c vs hk hn hs hm hmc hc2 hcell hsub=>
  exact ⟨k,n,s,A,m,c,rfl,hc 0 _ rfl,hc 1 _ rfl,hc 2 _ rfl,hc 3 _ rfl⟩
/-- The address of an item's first cell, its four cells, and the item that they are. -/
def Cells4 (w:World) (a:Addr) (u:Value):Prop:=∃(b o:Nat) (k n:Int) (s:ByteArray) (A:Option Addr) (m c:Nat),a=⟨b,o,none⟩∧u= .agg #[.int .i64 k,.int .u64 n,.string s,.slice A m c]∧
 w.cell? ⟨b,o,none⟩=some (.int .i64 k)∧w.cell? ⟨b,o+1,none⟩=some (.int .u64 n)∧w.cell? ⟨b,o+2,none⟩=some (.string s)∧w.cell? ⟨b,o+3,none⟩=some (.slice A m c)
theorem Cells4.keep {w w':World} {a:Addr} {u:Value} (h:Cells4 w a u) (hb:Below w.heap.size w w'):Cells4 w' a u:=by
 obtain ⟨b,o,k,n,s,A,m,c,e1,e2,h0,h1,h2,h3⟩:=h
 exact ⟨b,o,k,n,s,A,m,c,e1,e2,cell_keep hb h0,cell_keep hb h1,cell_keep hb h2,cell_keep hb h3⟩
theorem Holds.elem {w:World} {k:Int} {n:Nat} {s:ByteArray} {l:List Tree} {A:Option Addr} {m c:Nat} {kk nn:Int} {ss:ByteArray} (h:Holds w (.mk k n s l) (.agg #[.int .i64 kk,.int .u64 nn,.string ss,.slice A m c])) {i:Nat} {t:Tree} (hi:l[i]? =some t):
  ∃ad u,A=some ad∧Holds w t u∧Cells4 w (ad.add (i*4)) u:=by
 obtain ⟨A',m',c',e,_,_,_,_,_,_,hel⟩:=h.open_
 injection e with e
 injection e with e
 injection e with _ e
 injection e with _ e
 injection e with _ e
 injection e with e _
 injection e with e _ _
 subst e
 obtain ⟨ad,u,e1,hu,hc⟩:=hel i t hi
 refine ⟨ad,u,e1,hu,?_⟩
 obtain ⟨k2,n2,s2,A2,m2,c2,e2,h0,h1,h2,h3⟩:=hu.cells (a:=ad.add (i*4)) (fun j x hx=>by
  rw [add_of_add,Nat.mul_comm];exact hc j x hx)
 rcases hx:ad.add (i*4) with ⟨b,o,sp⟩
 have hs:sp=none:=by
  rw [hx] at h0
  simpa [Addr.add] using World.cell?_spot h0
 subst hs
 rw [hx] at h0 h1 h2 h3
 exact ⟨b,o,k2,n2,s2,A2,m2,c2,rfl,e2,by simpa [Addr.add] using h0,by simpa [Addr.add] using h1,by simpa [Addr.add] using h2,by simpa [Addr.add] using h3⟩
section
variable {H:Type} {enc:TypeId × Value→H} {P:Program} {w:World} {base:Nat} {spare:Nat→Bool} {held:Bool}
end
end Go.Proofs.YtlolnakeancenaaDoor
namespace Go.Proofs.YtlolnakeancenaaDoor
set_option linter.unusedVariables false
/-- Numbers below 2^64, texts and lists that are not too long. -/
inductive Fit:Tree→Prop where
 |mk (k:Int) (n:Nat) (s:ByteArray) (l:List Tree) (hn:n<2 ^ 64) (hs:s.size<2 ^ 64) (hl:l.length<2 ^ 64) (h:∀t∈l,Fit t):Fit (.mk k n s l)
theorem Fit.out {k:Int} {n:Nat} {s:ByteArray} {l:List Tree} (h:Fit (.mk k n s l)):n<2 ^ 64∧s.size<2 ^ 64∧l.length<2 ^ 64∧∀t∈l,Fit t:=by
 cases h with
 |mk _ _ _ _ a b c d=>exact ⟨a,b,c,d⟩
theorem empty_of_size {s:ByteArray} (h:s.size=0):s=ByteArray.empty:=by
 obtain ⟨⟨l⟩⟩:=s
 have:l=[]:=List.eq_nil_of_length_eq_zero h
 subst this
 rfl
theorem bad_parts {k:Int} {n:Nat} {s:ByteArray} {l:List Tree} (h:bad k n s l=false):
  (k=0∧s=ByteArray.empty∧l=[])∨(k=1∧n=0∧l=[])∨(k=2∧n=0∧s=ByteArray.empty):=by
 simp only [bad,decide_eq_false_iff_not] at h
 have hk:k=0∨k=1∨k=2:=Classical.byContradiction fun hh=>h (.inl hh)
 have hn:k≠0→n=0:=fun h1=>Classical.byContradiction fun hh=>h (.inr (.inl ⟨h1,hh⟩))
 have hs:k≠1→s=ByteArray.empty:=fun h1=>empty_of_size (Classical.byContradiction fun hh=>h (.inr (.inr (.inl ⟨h1,hh⟩))))
 have hl:k≠2→l=[]:=fun h1=>List.eq_nil_of_length_eq_zero (Classical.byContradiction fun hh=>h (.inr (.inr (.inr ⟨h1,by omega⟩))))
 rcases hk with rfl|rfl|rfl
 ·exact .inl ⟨rfl,hs (by decide),hl (by decide)⟩
 ·exact .inr (.inl ⟨rfl,hn (by decide),hl (by decide)⟩)
 ·exact .inr (.inr ⟨rfl,hn (by decide),hs (by decide)⟩)
theorem txt_inj {s t:ByteArray} (h:txt s=txt t):s=t:=by
 obtain ⟨⟨a⟩⟩:=s
 obtain ⟨⟨b⟩⟩:=t
 have hab:a=b:=by
  have h':a.map UInt8.toNat=b.map UInt8.toNat:=h
  exact List.map_inj_right (fun x y hxy=>UInt8.toNat_inj.1 hxy) |>.1 h'
 rw [hab]
/-- A form is at most ten times as long as the tree is great. -/
theorem tform_len (t:Tree):Fit t→(tform t).length≤10*tsize t:=by
 refine Tree.ind (P:=fun t=>Fit t→(tform t).length≤10*tsize t) ?_ t
 intro k n s l ih hf
 obtain ⟨hn,hs,hl,hsub⟩:=hf.out
 have key:∀a:List Tree,(∀t∈a,t∈l)→(tforms a).length≤10*tsizes a:=by
  intro a
  induction a with
  |nil=>intro _;simp [tforms]
  |cons t a iha=>
   intro hm
   simp only [tforms,tsizes,List.length_append]
   have h1:=ih t (hm t (by simp)) (hsub t (hm t (by simp)))
   have h2:=iha (fun v hv=>hm v (by simp [hv]))
   omega
 have h1:=key l (fun t h=>h)
 have h2:=form_len hn
 have h3:=form_len hs
 have h4:=form_len hl
 simp only [tform,tsize]
 split
 ·simp only [List.length_cons];omega
 ·split
  ·simp only [List.length_cons,List.length_append,txt_length];omega
  ·simp only [List.length_cons,List.length_append];omega
end Go.Proofs.YtlolnakeancenaaDoor
namespace Go.Proofs.YtlolnakeancenaaDoor
open Go.RowKit
set_option linter.unusedVariables false
set_option linter.unusedSimpArgs false
theorem cells_txt (s:ByteArray):Lib.strCells s=u8s (txt s):=by
 simp [Lib.strCells,u8s,txt]
section
variable {P:Program} {w:World}
theorem run_app_text (base:Nat) (t x ty e:TypeId) (i:TypeInfo) (ht:P.underlying t=some (.slice e)) (hx:P.underlying x=some .string) (hi:P.info? e=some i) (hz:i.zero=some (.int .u8 0))
  (hsize:i.size=1) (hby:i.bytes=1) (v:Value) (l:List Nat) (hown:w.ownsRow base e 1 v l.length (u8s l)) (s:ByteArray)
  (h63:l.length+s.size≤maxLen) (hbytes:l.length+s.size≤140737488355328) (hbase:base≤w.heap.size):
  ∃v' w',(Builtin.append_ #[t,x] ty #[v,.string s]).run P w= .ok v' w'∧w'.ownsRow base e 1 v' (l.length+(txt s).length) (u8s l++u8s (txt s))∧w.grownBy w' v.ownBlock∧
   (v'.ownBlock=v.ownBlock∨v'.ownBlock=some w.heap.size)∧w'.ownsRow base e 1 v l.length (u8s l):=by
 obtain ⟨v',w',hr,h2,h3,h4⟩:=Lib.run_append_own_string (P:=P) w base t x ty e i ht hx hi hz hsize hby v l.length (u8s l) hown s h63 hbytes hbase
 rw [cells_txt] at h2
 rw [←txt_length] at h2
 refine ⟨v',w',hr,h2,h3,?_⟩
 rcases hown.2 with ⟨rfl,hl⟩|⟨g,cap,cur,rfl,hbg,hg,hnc,hcm,hcs,htake⟩
 ·have hl0:l=[]:=List.eq_nil_of_length_eq_zero hl
  subst hl0
  refine ⟨?_,World.ownsRow_nil _ _ _ _⟩
  by_cases hs:s.size=0
  ·rw [h4.2 ⟨rfl,hs⟩];exact .inl rfl
  ·have hr':=run_append_nil_string (P:=P) w t x ty e i (.int .u8 0) ht hx hi hz s (by omega) (by unfold maxLen at h63;simp at h63;omega) (by rw [hby];simp at hbytes;omega)
   rw [hr] at hr'
   injection hr' with hv _
   subst hv
   exact .inr rfl
 ·by_cases hroom:l.length+s.size≤cap
  ·have hr':=Lib.run_append_room_string (P:=P) w t x ty e i ht hx hi hsize g l.length cap cur hg s hroom (by omega)
   rw [hr] at hr'
   injection hr' with hv hw
   subst hv hw
   refine ⟨.inl rfl,hown.1,.inr ⟨g,cap,_,rfl,hbg,setRow_heap w g cur _ e _ hg,hnc,hcm,?_,?_⟩⟩
   ·simp only [List.size_toArray,List.length_append,List.length_take,List.length_drop,Array.length_toList,Lib.strCells_length]
    omega
   ·have ht':cur.toList.take l.length=u8s l:=by simpa using htake
    rw [ht',Nat.mul_one,List.append_assoc]
    exact List.take_append_of_le_length (by simp [u8s_length]) |>.trans (List.take_of_length_le (by simp [u8s_length]))
  ·have holds:∀j u,(u8s l)[j]? =some u→w.cell? ((⟨g,0,none⟩:Addr).add j)=some u:=hown.cells (g:=g) rfl
   have hr':=Lib.run_append_grow_string (P:=P) w t x ty e i (.int .u8 0) ht hx hi hz ⟨g,0,none⟩ l.length cap (u8s l) (by rw [hsize,u8s_length];omega) holds s (by omega) (by unfold maxLen at h63;omega) (by rw [hby];exact growslice_fits (by omega) (by omega))
   rw [hr] at hr'
   injection hr' with hv hw
   subst hv hw
   refine ⟨.inr rfl,hown.1,.inr ⟨g,cap,cur,rfl,hbg,?_,hnc,hcm,hcs,htake⟩⟩
   exact (Below.heap_alloc w.drew _ g (Array.getElem?_eq_some_iff.1 hg).1).trans hg
/-- At the list of a plain region's operations. -/
theorem wpList_app_text {ops:Array Oper} {rest:List Oper} {o:Oper} {a:Act} {Q:Exit→Act→World→Prop} (hgd:o.guard=none) (sl xo:Operand) (t x:TypeId)
  (ho:o.op= .call { callee:=.builtin .append,args:=#[sl,xo],argTypes:=#[t,x] })
  (base:Nat) (e:TypeId) (i:TypeInfo) (ht:P.underlying t=some (.slice e)) (hx:P.underlying x=some .string) (hi:P.info? e=some i) (hz:i.zero=some (.int .u8 0))
  (hsize:i.size=1) (hby:i.bytes=1)
  (v:Value) (l:List Nat) (hs:a.eval sl=v) (hown:w.ownsRow base e 1 v l.length (u8s l)) (s:ByteArray) (hxe:a.eval xo= .string s)
  (h63:l.length+s.size≤maxLen) (hbytes:l.length+s.size≤140737488355328) (hbase:base≤w.heap.size)
  (h:∀v' w',w'.ownsRow base e 1 v' (l.length+(txt s).length) (u8s l++u8s (txt s))→w.grownBy w' v.ownBlock→(v'.ownBlock=v.ownBlock∨v'.ownBlock=some w.heap.size)→w'.ownsRow base e 1 v l.length (u8s l)→wpList P ops Q rest (a.put o.dst v') w'):wpList P ops Q (o :: rest) a w:=by
 refine wpList_plain hgd fun K hK=>?_
 obtain ⟨v',w',hr,h2,h3,h4,h5⟩:=run_app_text (P:=P) (w:=w) base t x o.type e i ht hx hi hz hsize hby v l hown s h63 hbytes hbase
 unfold Oper.wp execOp
 simp only [ho,resolve,invoke,builtin,Sem.run_bind,Sem.run_pure,Result.andThen_ok,List.map_toArray,List.map_cons,List.map_nil,hs,hxe,hr]
 exact hK _ _ (h v' w' h2 h3 h4 h5)
end
/-- One call behind the other. -/
theorem Onto.trans {w w1 w2:World} {base:Nat} {e:TypeId} {b b1 b2:Value} {l l1 l2:List Nat} (h:Onto w base e b l w1 b1 l1) (k:Onto w1 base e b1 l1 w2 b2 l2):Onto w base e b l w2 b2 l2:=by
 obtain ⟨mm,rfl⟩:=h.pre
 obtain ⟨m2,rfl⟩:=k.pre
 refine ⟨k.own,grown_trans' h.grown k.grown h.place,?_,?_,⟨mm++m2,by simp⟩,h.lt⟩
 ·rcases k.place with hat|⟨g,hat,hg⟩
  ·rw [hat];exact h.place
  ·exact .inr ⟨g,hat,Nat.le_trans h.grown.size hg⟩
 ·rcases h.place with hpl|⟨g,hpl,hgw⟩
  ·exact h.old.pre h.own hpl k.old
  ·refine h.old.kept k.grown ?_
   cases hbo:b.ownBlock with
   |none=>exact .inl rfl
   |some j=>
    right
    rw [hpl]
    intro hj
    injection hj with hj
    have:=h.lt j hbo
    omega
theorem Onto.appends {w:World} {base:Nat} {e:TypeId} {b b1:Value} {l l1 m:List Nat} {w1 w2:World} {r:Ending} (h:Onto w base e b l w1 b1 l1) (k:Appends w1 base e b1 l1 m r w2):
  ∃b2,r= .returned b2∧Onto w base e b l w2 b2 (l1++m)∧Onto w1 base e b1 l1 w2 b2 (l1++m):=by
 obtain ⟨b2,hr,hk⟩:=k
 exact ⟨b2,hr,h.trans hk,hk⟩
end Go.Proofs.YtlolnakeancenaaDoor
namespace Go.Proofs.YtlolnakeancenaaDoor
open Go.RowKit
set_option linter.unusedVariables false
set_option linter.unusedSimpArgs false
set_option maxRecDepth 20000
attribute [local go_sem ↓] Go.wp_at_zero Go.wp_at_succ
attribute [local go_sem] World.cell?_alloc_some frozen_alloc_some
def clamp (n:Nat):Nat:=min n 4611686018427387904
theorem clamp_wrap (n:Nat):IntKind.i64.wrap (clamp n:Int)=(clamp n:Int):=by
 have:clamp n≤4611686018427387904:=Nat.min_le_right _ _
 rw [IntWalk.i64_in _ (by omega)]
theorem clamp_int (n:Nat):min (n:Int) 4611686018427387904=(clamp n:Int):=by unfold clamp;omega
theorem clamp_lt (n:Nat):clamp n<2 ^ 63:=by have:clamp n≤4611686018427387904:=Nat.min_le_right _ _;omega
def ctxt:Tree→ByteArray| .mk _ _ s _=>s
def tN:Tree→Nat| .mk _ n _ _=>n
def cnum:Tree→Nat| .mk _ n _ _=>clamp n
end Go.Proofs.YtlolnakeancenaaDoor
namespace Go.Proofs.YtlolnakeancenaaDoor
set_option linter.unusedVariables false
set_option linter.unusedSimpArgs false
abbrev IdP:=Int × Int
def idLt (a b:IdP):Prop:=a.2<b.2∨a.2=b.2∧a.1<b.1
instance (a b:IdP):Decidable (idLt a b):=by unfold idLt;exact inferInstance
theorem idLt_irrefl (a:IdP):¬idLt a a:=by unfold idLt;omega
theorem idLt_trans {a b c:IdP} (h1:idLt a b) (h2:idLt b c):idLt a c:=by unfold idLt at*;omega
/-- Ascending, none twice. -/
abbrev Asc (l:List IdP):Prop:=l.Pairwise idLt
/-- An id is right. -/
def idRight (x:IdP):Bool:=decide (0≤x.1)&&decide (x.1<7)&&decide (0≤x.2)&&decide (x.2≤1099511627776)
theorem idRight_iff {x:IdP}:idRight x=true↔(0≤x.1∧x.1<7∧0≤x.2∧x.2≤1099511627776):=by
 simp only [idRight,Bool.and_eq_true,decide_eq_true_eq,and_assoc]
/-- A set is right. -/
def idsOk (l:List IdP):Bool:=decide ((∀x∈l,idRight x=true)∧Asc l∧l.length≤4096)
theorem idsOk_iff {l:List IdP}:idsOk l=true↔(∀x∈l,idRight x=true)∧Asc l∧l.length≤4096:=by
 unfold idsOk;rw [decide_eq_true_iff]
/-- What an instance hangs on: the ids, the number, the tag. -/
structure AttrP where
 l:List IdP
 q:Int
 t:Int
deriving DecidableEq
def azero:AttrP:=⟨[],0,0⟩
/-- What is wrong with it: an error's number. -/
def acheck (a:AttrP):Nat:=
 if ¬(a.t=1∨a.t=2) then 17
 else if (a.t=1∧(a.q<1∨1099511627776<a.q))∨(a.t=2∧a.q≠0) then 6
 else if idsOk a.l=false then 4 else 0
theorem acheck_iff {a:AttrP}:acheck a=0↔((a.t=1∧1≤a.q∧a.q≤1099511627776)∨(a.t=2∧a.q=0))∧idsOk a.l=true:=by
 unfold acheck
 by_cases h1:a.t=1∨a.t=2
 ·rw [if_neg (fun hn=>hn h1)]
  by_cases h2:(a.t=1∧(a.q<1∨1099511627776<a.q))∨(a.t=2∧a.q≠0)
  ·rw [if_pos h2]
   constructor
   ·intro h;cases h
   ·rintro ⟨h3,_⟩;omega
  ·rw [if_neg h2]
   cases hk:idsOk a.l
   ·simp
   ·simp only [Bool.true_eq_false,if_false,true_iff,and_true]
    omega
 ·rw [if_pos h1]
  constructor
  ·intro h;cases h
  ·rintro ⟨h3,_⟩;omega
end Go.Proofs.YtlolnakeancenaaDoor
namespace Go.Proofs.YtlolnakeancenaaDoor
open Go.RowKit Go.ChangeShapes Go.WideShapes Go.Joins Go.Deep Go.ChangeAt
set_option linter.unusedVariables false
set_option maxRecDepth 20000
set_option linter.unusedSimpArgs false
theorem Blk.newAt {w:World} {g:Nat} {t:TypeId} {cs:Array Value} (h:w.heap.size=g):Blk (w.alloc (.cells cs t)) g t cs:=by subst h;exact Blk.new w t cs
/-- A slice of ids, nil let in, that reads as the list l. -/
def IdsAt (w:World) (A:Option Addr) (m:Nat) (l:List IdP):Prop:=
 m=l.length∧m≤maxLen∧∀(i:Nat) (x:IdP),l[i]? =some x→(Lit.int .i64 x.1).wf=true∧(Lit.int .i64 x.2).wf=true∧
  ∃b o,A=some ⟨b,o,none⟩∧w.cell? ⟨b,o+i*2,none⟩=some (.int .i64 x.1)∧w.cell? ⟨b,o+i*2+1,none⟩=some (.int .i64 x.2)
theorem IdsAt.keep {w w':World} {A:Option Addr} {m:Nat} {l:List IdP} (h:IdsAt w A m l) (hb:Below w.heap.size w w'):IdsAt w' A m l:=
 ⟨h.1,h.2.1,fun i x hi=>by
  obtain ⟨w1,w2,b,o,e,h1,h2⟩:=h.2.2 i x hi
  exact ⟨w1,w2,b,o,e,cell_keep hb h1,cell_keep hb h2⟩⟩
theorem IdsAt.nil {w:World} {A:Option Addr}:IdsAt w A 0 []:=⟨rfl,Nat.zero_le _,fun i x h=>by simp at h⟩
theorem IdsAt.at_ {w:World} {A:Option Addr} {m:Nat} {l:List IdP} (h:IdsAt w A m l) {i:Nat} (hi:i<m):
  ∃r n b o,l[i]? =some (r,n)∧(Lit.int .i64 r).wf=true∧(Lit.int .i64 n).wf=true∧A=some ⟨b,o,none⟩∧w.cell? ⟨b,o+i*2,none⟩=some (.int .i64 r)∧w.cell? ⟨b,o+i*2+1,none⟩=some (.int .i64 n):=by
 have hl:i<l.length:=by rw [←h.1];exact hi
 obtain ⟨w1,w2,b,o,e,h1,h2⟩:=h.2.2 i l[i] (List.getElem?_eq_getElem hl)
 exact ⟨_,_,b,o,List.getElem?_eq_getElem hl,w1,w2,e,h1,h2⟩
section
variable {H:Type} {enc:TypeId × Value→H} {w:World} {base:Nat} {spare:Nat→Bool} {held:Bool}
theorem list2 {α:Type} {l:List α} (h:l.length=2):∃c0 c1,l=[c0,c1]:=by
 match l,h with
 | [c0,c1],_=>exact ⟨c0,c1,rfl⟩
theorem open_id {fuel:Nat} {cs:List Value} {x:DataW H × List MemPlace} (h:DataW.trod enc Tryd.prog w base spare held fuel 41 cs=some x):
  ∃r n:Int,cs=[.int .i64 r,.int .i64 n]∧(Lit.int .i64 r).wf=true∧(Lit.int .i64 n).wf=true:=by
 obtain ⟨y0,y1,n,_,hl,h0,h1⟩:=trod_struct2 Tryd.underlying41 h
 have hC:Tryd.prog.cellsOf 41=2:=by kernel_rfl
 have hi:Tryd.prog.cellsOf 3=1:=by kernel_rfl
 obtain ⟨c0,c1,rfl⟩:=list2 (hl.trans hC)
 simp only [hi] at h0 h1
 obtain ⟨a,e0,_,wa⟩:=DataW.trod_int Tryd.underlying3 h0
 obtain ⟨b,e1,_,wb⟩:=DataW.trod_int Tryd.underlying3 h1
 simp at e0 e1
 subst e0 e1
 exact ⟨a,b,rfl,wa,wb⟩
theorem open_ids {fuel:Nat} {cs:List Value} {x:DataW H × List MemPlace} (h:DataW.trod enc Tryd.prog w base spare held fuel 46 cs=some x):
  ∃(A:Option Addr) (m c:Nat) (l:List IdP),cs=[.slice A m c]∧m≤c∧c≤maxLen∧IdsAt w A m l:=by
 rcases DataW.trod_slice Tryd.underlying46 h with ⟨e3,_⟩|⟨A,len,cap,elems,rest,q,hq,e3,_,hbA,hle,hcap,hel,helem,_,_⟩
 ·exact ⟨none,0,0,[],e3,Nat.le_refl _,Nat.zero_le _,IdsAt.nil⟩
 ·have hC:Tryd.prog.cellsOf 41=2:=by kernel_rfl
  have hex:∀i,i<len→∃x:IdP,(Lit.int .i64 x.1).wf=true∧(Lit.int .i64 x.2).wf=true∧∃b o,A=⟨b,o,none⟩∧w.cell? ⟨b,o+i*2,none⟩=some (.int .i64 x.1)∧w.cell? ⟨b,o+i*2+1,none⟩=some (.int .i64 x.2):=by
   intro i hi
   have key:=helem i hi
   rw [List.getElem?_eq_getElem (by omega),hC] at key
   obtain ⟨cs',h1',h2'⟩:=Option.bind_eq_some_iff.1 key
   obtain ⟨r,n,rfl,w1,w2⟩:=open_id h2'
   obtain ⟨_,hlc,hcell⟩:=World.cells?_some h1'
   have c0:=hcell 0 (by omega)
   have c1:=hcell 1 (by omega)
   rw [add_of_add] at c0 c1
   have hs:A.spot=none:=by
    have key:=helem 0 (by omega)
    rw [List.getElem?_eq_getElem (by omega),hC] at key
    obtain ⟨cs',h1',h2'⟩:=Option.bind_eq_some_iff.1 key
    obtain ⟨r,n,rfl,w1,w2⟩:=open_id h2'
    obtain ⟨_,hlc,hcell⟩:=World.cells?_some h1'
    have c0:=hcell 0 (by omega)
    have:=World.cell?_spot c0
    simpa [Addr.add] using this
   rcases A with ⟨b,o,sp⟩
   simp only at hs
   subst hs
   have e:∀k,(Addr.mk b o none).add k=⟨b,o+k,none⟩:=fun k=>by
    unfold Addr.add
    split
    ·simp_all
    ·rfl
   rw [e] at c0 c1
   exact ⟨(r,n),w1,w2,b,o,rfl,c0,c1⟩
  obtain ⟨F,hF⟩:=choose_lt hex
  refine ⟨some A,len,cap,(List.range len).map F,e3,hle,hcap,by simp,by omega,fun i x hi=>?_⟩
  simp only [List.getElem?_map,Option.map_eq_some_iff] at hi
  obtain ⟨r,hr,rfl⟩:=hi
  obtain ⟨hlt,hv⟩:=List.getElem?_eq_some_iff.1 hr
  simp at hlt hv
  subst hv
  obtain ⟨w1,w2,b,o,e,h1,h2⟩:=hF i hlt
  exact ⟨w1,w2,b,o,by rw [e],h1,h2⟩
/-- What an instance hangs on, by value: the slice's cell, the number, the tag. -/
theorem open_attr_cells {fuel:Nat} {cs:List Value} {x:DataW H × List MemPlace} (h:DataW.trod enc Tryd.prog w base spare held fuel 48 cs=some x):
  ∃(A:Option Addr) (m c:Nat) (q t:Int) (l:List IdP),cs=[.slice A m c,.int .i64 q,.int .i64 t]∧m≤c∧c≤maxLen∧IdsAt w A m l∧(Lit.int .i64 q).wf=true∧(Lit.int .i64 t).wf=true:=by
 obtain ⟨y0,y1,y2,n,_,hl,h0,h1,h2⟩:=trod_struct3 Tryd.underlying48 h
 have hC:Tryd.prog.cellsOf 48=3:=by kernel_rfl
 have hi:Tryd.prog.cellsOf 3=1:=by kernel_rfl
 have hs:Tryd.prog.cellsOf 46=1:=by kernel_rfl
 obtain ⟨c0,c1,c2,rfl⟩:∃c0 c1 c2,cs=[c0,c1,c2]:=by
  match cs,hl.trans hC with
  | [c0,c1,c2],_=>exact ⟨c0,c1,c2,rfl⟩
 simp only [hi,hs] at h0 h1 h2
 obtain ⟨A,m,c,l,e0,hmc,hc,hI⟩:=open_ids h0
 obtain ⟨a,e1,_,wa⟩:=DataW.trod_int Tryd.underlying3 h1
 obtain ⟨b,e2,_,wb⟩:=DataW.trod_int Tryd.underlying3 h2
 simp at e0 e1 e2
 subst e0 e1 e2
 exact ⟨A,m,c,a,b,l,rfl,hmc,hc,hI,wa,wb⟩
end
end Go.Proofs.YtlolnakeancenaaDoor
namespace Go.Proofs.YtlolnakeancenaaDoor
open Go.RowKit
set_option linter.unusedVariables false
set_option linter.unusedSimpArgs false
set_option maxRecDepth 20000
attribute [local go_sem ↓] Go.wp_at_zero Go.wp_at_succ
attribute [local go_sem] World.cell?_alloc_some frozen_alloc_some
def opAt:List Oper→Nat→Option Oper
 | [],_=>none
 |o :: _,0=>some o
 |_ :: l,n+1=>opAt l n
theorem opAt_get:∀(l:List Oper) (i:Nat),l.toArray[i]? =opAt l i
 | [],i=>by simp [opAt]
 |o :: l,0=>by simp [opAt]
 |o :: l,i+1=>by
  have h:=opAt_get l i
  simp only [List.getElem?_toArray] at h
  simp only [List.getElem?_toArray,List.getElem?_cons_succ,h,opAt]
section
variable {P:Program} {l:List Oper} {Q:Exit→Act→World→Prop} {md:Region.Mode} {S:World→Prop}
theorem take_op {i:Nat} {oi:Oper} {v:Value} {fuel:Nat} {listed:Array Bool} {a:Act} {w:World} (hi:opAt l i=some oi)
  (hs:Region.noSelect l.toArray=true) (hf:Region.free md l.toArray listed i=true) (hr:(Region.ready md l.toArray listed).contains i=true)
  (hQ:∀c a w,Q (.panic c) (a.put oi.dst v) w→Q (.panic c) a w) (hw:Region.wanted oi (yielded l.toArray a.tmps)=true)
  (hy:∀w,S w→(execOp a.eval oi).run P w= .ok (.value v) w) (hS:S w)
  (h:wpAnyH P md l.toArray Q S fuel (listed.setIfInBounds i true) (a.put oi.dst v) w):wpAnyH P md l.toArray Q S (fuel+1) listed a w:=
 wpAnyH_take ((opAt_get l i).trans hi) hs hf hr hQ (Or.inl ⟨hw,hy⟩) hS h
theorem skip_op {i:Nat} {oi:Oper} {fuel:Nat} {listed:Array Bool} {a:Act} {w:World} (hi:opAt l i=some oi)
  (hs:Region.noSelect l.toArray=true) (hf:Region.free md l.toArray listed i=true) (hr:(Region.ready md l.toArray listed).contains i=true)
  (hQ:∀c a w,Q (.panic c) (a.put oi.dst undef) w→Q (.panic c) a w) (hw:Region.wanted oi (yielded l.toArray a.tmps)=false) (hS:S w)
  (h:wpAnyH P md l.toArray Q S fuel (listed.setIfInBounds i true) (a.put oi.dst undef) w):wpAnyH P md l.toArray Q S (fuel+1) listed a w:=
 wpAnyH_take ((opAt_get l i).trans hi) hs hf hr hQ (Or.inr ⟨hw,rfl⟩) hS h
theorem call_op {i:Nat} {o:Oper} {fuel:Nat} {listed:Array Bool} {a:Act} {w:World} (hi:opAt l i=some o) (hr:Region.ready md l.toArray listed=[i])
  (hw:Region.wanted o (yielded l.toArray a.tmps)=true)
  (h:∀K':Act→World→Prop,Shut (∀a w,S w→(S w→wpAnyH P md l.toArray Q S fuel (listed.setIfInBounds i true) a w)→K' a w)→Oper.wp P o a w K' Q):
  wpAnyH P md l.toArray Q S (fuel+1) listed a w:=
 wpAnyH_ready hr (by simp) (AllReadyH.cons ((opAt_get l i).trans hi) (fun K' hK=>by rw [if_pos hw];exact h K' hK) AllReadyH.nil)
/-- Two may come up: both ways are walked. -/
theorem two_op {i j:Nat} {o o':Oper} {fuel:Nat} {listed:Array Bool} {a:Act} {w:World} (hi:opAt l i=some o) (hj:opAt l j=some o') (hr:Region.ready md l.toArray listed=[i,j])
  (hw:Region.wanted o (yielded l.toArray a.tmps)=true) (hw':Region.wanted o' (yielded l.toArray a.tmps)=true)
  (h:∀K':Act→World→Prop,Shut (∀a w,S w→(S w→wpAnyH P md l.toArray Q S fuel (listed.setIfInBounds i true) a w)→K' a w)→Oper.wp P o a w K' Q)
  (h':∀K':Act→World→Prop,Shut (∀a w,S w→(S w→wpAnyH P md l.toArray Q S fuel (listed.setIfInBounds j true) a w)→K' a w)→Oper.wp P o' a w K' Q):
  wpAnyH P md l.toArray Q S (fuel+1) listed a w:=
 wpAnyH_ready hr (by simp) (AllReadyH.cons ((opAt_get l i).trans hi) (fun K' hK=>by rw [if_pos hw];exact h K' hK) (AllReadyH.cons ((opAt_get l j).trans hj) (fun K' hK=>by rw [if_pos hw'];exact h' K' hK) AllReadyH.nil))
end
abbrev S1 (g:Nat) (cs:Array Value) (wx:World):Prop:=∀i,wx.cell? ⟨g,i,none⟩=cs[i]?
theorem Blk.s1 {w:World} {g:Nat} {t:TypeId} {cs:Array Value} (h:Blk w g t cs):S1 g cs w:=h.cell
abbrev S11 (g1 g2:Nat) (c1 c2:Array Value) (wx:World):Prop:=(∀i,wx.cell? ⟨g1,i,none⟩=c1[i]?)∧(∀i,wx.cell? ⟨g2,i,none⟩=c2[i]?)
abbrev S12 (g:Nat) (cs:Array Value) (p q:Addr) (u v:Value) (wx:World):Prop:=(∀i,wx.cell? ⟨g,i,none⟩=cs[i]?)∧wx.cell? p=some u∧wx.cell? q=some v
abbrev S2 (p q:Addr) (u v:Value) (wx:World):Prop:=wx.cell? p=some u∧wx.cell? q=some v
theorem S2.keep {p q:Addr} {u v:Value} {W W':World} (h:S2 p q u v W) (hb:Below W.heap.size W W'):S2 p q u v W':=⟨cell_keep hb h.1,cell_keep hb h.2⟩
theorem S2.drew {p q:Addr} {u v:Value} {W:World} (h:S2 p q u v W):S2 p q u v W.drew:=h.keep (Below.refl _ _).drew
theorem S2.below {B:Nat} {p q:Addr} {u v:Value} {W W':World} (h:S2 p q u v W) (hb:Below B W W') (hp:p.block<B) (hq:q.block<B):S2 p q u v W':=⟨(hb.cell hp).trans h.1,(hb.cell hq).trans h.2⟩
abbrev S4 (p q r s:Addr) (u v x y:Value) (wx:World):Prop:=wx.cell? p=some u∧wx.cell? q=some v∧wx.cell? r=some x∧wx.cell? s=some y
theorem S4.keep {p q r s:Addr} {u v x y:Value} {W W':World} (h:S4 p q r s u v x y W) (hb:Below W.heap.size W W'):S4 p q r s u v x y W':=⟨cell_keep hb h.1,cell_keep hb h.2.1,cell_keep hb h.2.2.1,cell_keep hb h.2.2.2⟩
theorem S4.drew {p q r s:Addr} {u v x y:Value} {W:World} (h:S4 p q r s u v x y W):S4 p q r s u v x y W.drew:=h.keep (Below.refl _ _).drew
/-- Q, but that nothing panics. -/
def noPan (Q:Exit→Act→World→Prop):Exit→Act→World→Prop
 | .panic _,_,_=>False
 |e,a,w=>Q e a w
theorem wp_noPan {P:Program} {c:Code} {Q:Exit→Act→World→Prop} {a:Act} {w:World} (h:c.wp P (noPan Q) a w):c.wp P Q a w:=
 Code.wp_mono (fun e a w h=>by cases e <;> first|exact h|exact h.elim) h
end Go.Proofs.YtlolnakeancenaaDoor
namespace Go.Proofs.YtlolnakeancenaaDoor
def crcP:Nat:=2197175160
def crcM:Nat:=4294967295
/-- One step of the register. -/
def cstep (v:Nat):Nat:=if v % 2=1 then (v / 2) ^^^ crcP else v / 2
def csteps:Nat→Nat→Nat
 |0,v=>v
 |n+1,v=>csteps n (cstep v)
/-- A byte more. -/
def cupd (v c:Nat):Nat:=csteps 8 (v ^^^ c)
def cfold (v:Nat) (l:List Nat):Nat:=l.foldl cupd v
def crc (l:List Nat):Nat:=crcM - cfold crcM l
theorem csteps_succ' (n v:Nat):csteps (n+1) v=cstep (csteps n v):=by
 induction n generalizing v with
 |zero=>rfl
 |succ n ih=>rw [csteps,ih (cstep v)];rfl
theorem csteps_add (m n v:Nat):csteps (m+n) v=csteps m (csteps n v):=by
 induction m with
 |zero=>simp [csteps]
 |succ m ih=>rw [show m+1+n=(m+n)+1 by omega,csteps_succ',ih,csteps_succ']
theorem xor_mod_two (a b:Nat):(a ^^^ b) % 2=(a+b) % 2:=by
 have h:= @Nat.xor_mod_two_eq_one a b
 have h2:=Nat.mod_two_eq_zero_or_one (a ^^^ b)
 generalize (a ^^^ b) % 2=c at*
 omega
theorem xor_div_two' (a b:Nat):(a ^^^ b) / 2=(a / 2) ^^^ (b / 2):=Nat.xor_div_two
theorem cstep_xor (a b:Nat):cstep (a ^^^ b)=cstep a ^^^ cstep b:=by
 unfold cstep
 rw [xor_mod_two,xor_div_two']
 have ha:a % 2=0∨a % 2=1:=by omega
 have hb:b % 2=0∨b % 2=1:=by omega
 rcases ha with ha|ha <;> rcases hb with hb|hb
 ·rw [if_neg (by omega),if_neg (by omega),if_neg (by omega)]
 ·rw [if_pos (by omega),if_neg (by omega),if_pos (by omega),Nat.xor_assoc]
 ·rw [if_pos (by omega),if_pos (by omega),if_neg (by omega),Nat.xor_assoc,Nat.xor_assoc,Nat.xor_comm crcP]
 ·rw [if_neg (by omega),if_pos (by omega),if_pos (by omega)]
  rw [Nat.xor_assoc,Nat.xor_comm crcP,Nat.xor_assoc,Nat.xor_self,Nat.xor_zero]
theorem csteps_xor (n a b:Nat):csteps n (a ^^^ b)=csteps n a ^^^ csteps n b:=by
 induction n generalizing a b with
 |zero=>rfl
 |succ n ih=>simp only [csteps,cstep_xor,ih]
theorem cstep_double (v:Nat):cstep (2*v)=v:=by
 unfold cstep;rw [if_neg (by omega)];omega
theorem csteps_shift (n v:Nat):csteps n (2 ^ n*v)=v:=by
 induction n generalizing v with
 |zero=>simp [csteps]
 |succ n ih=>
  rw [csteps,show 2 ^ (n+1)*v=2*(2 ^ n*v) by rw [Nat.pow_succ,Nat.mul_comm (2 ^ n) 2,Nat.mul_assoc],cstep_double,ih]
theorem split_xor (n v:Nat):v=(2 ^ n*(v / 2 ^ n)) ^^^ (v % 2 ^ n):=by
 apply Nat.eq_of_testBit_eq
 intro i
 simp [Nat.testBit_xor,Nat.testBit_mod_two_pow,Nat.testBit_two_pow_mul,Nat.testBit_div_two_pow]
 by_cases h:n≤i
 ·simp [h,Nat.not_lt.2 h,Nat.sub_add_cancel h]
 ·simp [h,Nat.lt_of_not_le h]
theorem csteps_split (n v:Nat):csteps n v=(v / 2 ^ n) ^^^ csteps n (v % 2 ^ n):=by
 conv=>lhs;rw [split_xor n v]
 rw [csteps_xor,csteps_shift]
theorem cstep_lt {v:Nat} (h:v<2 ^ 32):cstep v<2 ^ 32:=by
 unfold cstep
 split
 ·exact Nat.xor_lt_two_pow (by omega) (by decide)
 ·omega
theorem csteps_lt (n:Nat) {v:Nat} (h:v<2 ^ 32):csteps n v<2 ^ 32:=by
 induction n generalizing v with
 |zero=>exact h
 |succ n ih=>exact ih (cstep_lt h)
/-- The remainders of the half bytes. -/
def ctab (x:Nat):Nat:=csteps 4 x
theorem csteps_four (v:Nat):csteps 4 v=(v / 16) ^^^ ctab (v % 16):=csteps_split 4 v
/-- The two turns of a byte, by half bytes. -/
def chalf (v:Nat):Nat:=(v / 16) ^^^ ctab (v % 16)
theorem cupd_halves (v c:Nat):cupd v c=chalf (chalf (v ^^^ c)):=by
 unfold cupd chalf
 rw [show (8:Nat)=4+4 from rfl,csteps_add,csteps_four,csteps_four]
theorem ctab_lt {x:Nat} (h:x<16):ctab x<2 ^ 32:=csteps_lt 4 (by omega)
theorem chalf_lt {v:Nat} (h:v<2 ^ 32):chalf v<2 ^ 32:=by
 unfold chalf;exact Nat.xor_lt_two_pow (by omega) (ctab_lt (by omega))
theorem cupd_lt {v c:Nat} (h:v<2 ^ 32) (hc:c<256):cupd v c<2 ^ 32:=csteps_lt 8 (Nat.xor_lt_two_pow h (by omega))
theorem cfold_lt (l:List Nat) (hl:∀c∈l,c<256) {v:Nat} (h:v<2 ^ 32):cfold v l<2 ^ 32:=by
 induction l generalizing v with
 |nil=>exact h
 |cons c l ih=>exact ih (fun x hx=>hl x (by simp [hx])) (cupd_lt h (hl c (by simp)))
theorem cfold_append (v:Nat) (a b:List Nat):cfold v (a++b)=cfold (cfold v a) b:=by simp [cfold]
theorem cfold_snoc (v:Nat) (a:List Nat) (c:Nat):cfold v (a++ [c])=cupd (cfold v a) c:=by simp [cfold]
end Go.Proofs.YtlolnakeancenaaDoor
