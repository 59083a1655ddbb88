/- The walk of msg.item behind its first region: case 2. -/
import Derived.Test.YtlolnakeancenaaDoorShimApartQ25
import Derived.WalkKit
import Derived.WalkSpells
import Derived.WalkLawsBesides
import Derived.Deep.RegionHeld3
import Derived.Deep.DrawnRows
import Derived.Deep.DeepCutAuto
import Derived.Deep.DeepFit
import Derived.Lib.Hide
import Derived.BigQuiet
import Derived.Deep.QuietTactic
namespace Go.Proofs.YtlolnakeancenaaDoor
open Go.RowKit
set_option linter.unusedVariables false
set_option linter.unusedSimpArgs false
set_option maxRecDepth 20000
attribute [local go_sem ↓] Go.wp_at_zero Go.wp_at_succ
attribute [local go_sem] World.cell?_alloc_some frozen_alloc_some
attribute [local go_sem] lt2 lt3 lt4 lt5
attribute [local simp] lt2 lt3 lt4 lt5
attribute [local go_sem ↓ high] loadVar_msg storeVar_msg msg_store_new
set_option maxHeartbeats 32000000 in
theorem itemcase2 {w W:World} {gh gx gs:Nat} {Ar:Option Addr} {dr:Nat} {k i n br bb tr tb st ck cc cq:Int} {cy cx:ByteArray} {cr:Int} {A:Option Addr} {m cap:Nat} {sq tg ver:Int} {l:List IdP} (hcc:(false:Bool)=true→ccheck ck cc cq cy cx cr=0) (hm:m≤1000000) (ha:(MsgT.mk k i n br bb tr tb st ck cc cq cy cx cr A m cap sq tg ver l).Ok w)
  {RES:List Tree} (hRES:mpartsF true true false false true false ⟨k,i,n,br,bb,tr,tb,st,ck,cc,cq,cy,cx,cr,A,m,cap,sq,tg,ver,l⟩=RES) (hS:St w W gh gx #[.int .i64 k,.int .i64 i,.int .i64 n,.int .i64 br,.int .i64 bb,.int .i64 tr,.int .i64 tb,.int .i64 st,.int .i64 ck,.int .i64 cc,.int .i64 cq,.string cy,.string cx,.int .i64 cr,.slice A m cap,.int .i64 sq,.int .i64 tg,.int .i64 ver] #[.bool true,.bool true,.bool false,.bool false,.bool true,.bool false] (.slice Ar 1 dr) 1 [ntree k] [numV (u64n k)]):
  Code.wp Tryd.prog itemRest (bodyPost Tryd.prog Tryd.f35 (ItemPost w RES)) { tmps:=#[.agg #[.int .i64 k,.int .i64 i,.int .i64 n,.int .i64 br,.int .i64 bb,.int .i64 tr,.int .i64 tb,.int .i64 st,.int .i64 ck,.int .i64 cc,.int .i64 cq,.string cy,.string cx,.int .i64 cr,.slice A m cap,.int .i64 sq,.int .i64 tg,.int .i64 ver],.pointer (some ⟨w.heap.size,0,none⟩),.pointer (some ⟨w.heap.size+1,0,none⟩),.func (.func 52) #[] #[],.pointer (some ⟨gh,0,none⟩),.pointer (some ⟨gx,0,none⟩),.agg #[.int .i64 k,.int .i64 i,.int .i64 n,.int .i64 br,.int .i64 bb,.int .i64 tr,.int .i64 tb,.int .i64 st,.int .i64 ck,.int .i64 cc,.int .i64 cq,.string cy,.string cx,.int .i64 cr,.slice A m cap,.int .i64 sq,.int .i64 tg,.int .i64 ver],.agg #[.bool true,.bool true,.bool false,.bool false,.bool true,.bool false],.func (.func 52) #[] #[],.pointer (some ⟨w.heap.size,0,none⟩),.int .i64 k,.agg #[.int .i64 0,.int .u64 (u64n k:Int),.string ByteArray.empty,.slice none 0 0],.slice (some ⟨gs,0,none⟩) 1 1,.agg #[.int .i64 2,.int .u64 0,.string ByteArray.empty,.slice Ar 1 dr],undef,undef,undef,undef,undef,undef,undef,undef,undef,undef,undef,undef,undef,undef,undef,undef,undef,undef,undef,undef,undef,undef,undef,undef,undef,undef,undef,undef,undef,undef,undef,undef,undef,undef,undef,undef,undef,undef,undef,undef,undef,undef,undef,undef,undef,undef,undef,undef,undef,undef,undef,undef,undef,undef,undef,undef,undef,undef,undef,undef,undef,undef,undef,undef,undef,undef,undef,undef,undef,undef,undef,undef,undef],defers:=[] } W:=by
 obtain ⟨i1,hi,hz0,hz1,hz2⟩:=info_item
 have hn:=fun v W=>item101_any v W
 have hb:=fun a b W=>balitem_any a b W
 have hc:=fun (h:(false:Bool)=true) W=>cmditem_right ck cc cq cy cx cr ha.cy ha.cx (hcc h) W
 have hat:=fun W (h:Below w.heap.size w W)=>attritem_any A m cap sq tg l W (ha.l.keep h) hm
 have HRES:=Lib.hid hRES
 clear hcc ha hm hRES
 unfold numV at hn
 unfold listV at hb hc hat
 have Hn:=Lib.hid hn
 have Hb:=Lib.hid hb
 have Hc:=Lib.hid hc
 have Ha:=Lib.hid hat
 clear hn hb hc hat
 have cH:=hS.Hh.cell
 have cX:=hS.X.cell
 simp only [itemRest,Tryd.f35]
 go_upto_region 4 with fail
 replace hS:=hS.keep (Below.refl _ _).drew
 clear cH cX
 (refine wp_region_held_drew (S:=(S1 w.heap.size #[.int .i64 k,.int .i64 i,.int .i64 n,.int .i64 br,.int .i64 bb,.int .i64 tr,.int .i64 tb,.int .i64 st,.int .i64 ck,.int .i64 cc,.int .i64 cq,.string cy,.string cx,.int .i64 cr,.slice A m cap,.int .i64 sq,.int .i64 tg,.int .i64 ver])) (by kernel_rfl) ?_ (fun hHeld=>?_);(· exact hS.X.cell))
 revert hHeld hS
 generalize World.drew _=W1
 revert W1
 apply join
 ·intro hJ
  have HJ:=Lib.hid hJ
  clear hJ
  intro W1 hS hHeld
  (refine take_op (i:=0) (v:=?_) rfl (by kernel_rfl) (by kernel_rfl) (by kernel_rfl) (fun _ _ _ h=>h) (by rfl) ?_ hHeld ?_;rotate_left;(· (intro wS hSw;(try dsimp only at hSw);go_simp;first|done|with_reducible rfl));simp only [Act.put,sta_,scz_,scs_]);(refine take_op (i:=2) (v:=?_) rfl (by kernel_rfl) (by kernel_rfl) (by kernel_rfl) (fun _ _ _ h=>h) (by rfl) ?_ hHeld ?_;rotate_left;(· (intro wS hSw;(try dsimp only at hSw);go_simp;first|done|with_reducible rfl));simp only [Act.put,sta_,scz_,scs_]);(refine take_op (i:=3) (v:=?_) rfl (by kernel_rfl) (by kernel_rfl) (by kernel_rfl) (fun _ _ _ h=>h) (by rfl) ?_ hHeld ?_;rotate_left;(· (intro wS hSw;(try dsimp only at hSw);go_simp;first|done|with_reducible rfl));simp only [Act.put,sta_,scz_,scs_]);(refine take_op (i:=4) (v:=?_) rfl (by kernel_rfl) (by kernel_rfl) (by kernel_rfl) (fun _ _ _ h=>h) (by rfl) ?_ hHeld ?_;rotate_left;(· (intro wS hSw;(try dsimp only at hSw);go_simp;first|done|with_reducible rfl));simp only [Act.put,sta_,scz_,scs_]);(refine take_op (i:=5) (v:=?_) rfl (by kernel_rfl) (by kernel_rfl) (by kernel_rfl) (fun _ _ _ h=>h) (by rfl) ?_ hHeld ?_;rotate_left;(· (intro wS hSw;(try dsimp only at hSw);go_simp;first|done|with_reducible rfl));simp only [Act.put,sta_,scz_,scs_]);(refine take_op (i:=7) (v:=?_) rfl (by kernel_rfl) (by kernel_rfl) (by kernel_rfl) (fun _ _ _ h=>h) (by rfl) ?_ hHeld ?_;rotate_left;(· (intro wS hSw;(try dsimp only at hSw);go_simp;first|done|with_reducible rfl));simp only [Act.put,sta_,scz_,scs_]);(refine take_op (i:=8) (v:=?_) rfl (by kernel_rfl) (by kernel_rfl) (by kernel_rfl) (fun _ _ _ h=>h) (by rfl) ?_ hHeld ?_;rotate_left;(· (intro wS hSw;(try dsimp only at hSw);go_simp;first|done|with_reducible rfl));simp only [Act.put,sta_,scz_,scs_]);(refine take_op (i:=9) (v:=?_) rfl (by kernel_rfl) (by kernel_rfl) (by kernel_rfl) (fun _ _ _ h=>h) (by rfl) ?_ hHeld ?_;rotate_left;(· (intro wS hSw;(try dsimp only at hSw);go_simp;first|done|with_reducible rfl));simp only [Act.put,sta_,scz_,scs_]);(refine take_op (i:=10) (v:=?_) rfl (by kernel_rfl) (by kernel_rfl) (by kernel_rfl) (fun _ _ _ h=>h) (by rfl) ?_ hHeld ?_;rotate_left;(· (intro wS hSw;(try dsimp only at hSw);go_simp;first|done|with_reducible rfl));simp only [Act.put,sta_,scz_,scs_])
  have Fr:=hS.P.fresh hS.G.lt hS.hz
  refine two_op (i:=1) (j:=6) rfl rfl (by kernel_rfl) (by rfl) (by rfl) ?_ ?_
  ·have cG:=hS.G.cell
   (intro K hK;go_simp;skip;refine hK.out _ _ (hS.X.cell) (fun hHeld2=>?_);clear hK K hHeld;have hHeld:=hHeld2;clear hHeld2;(try simp only [Act.put,sta_,scz_,scs_]))
   clear cG
   (refine call_op (i:=6) rfl (by kernel_rfl) (by rfl) (fun K hK=>?_);go_simp;(go_at_call 52;(with_reducible refine (Hn.out i _).mono ?_);rintro e V1 ⟨rfl,hb⟩;have hs1:=hb.size;replace hS:=hS.keep hb;clear hb);refine hK.out _ _ hS.X.cell (fun hHeld2=>?_);clear hK K hHeld;have hHeld:=hHeld2;clear hHeld2;(try simp only [Act.put,sta_,scz_,scs_]))
   (refine call_op (i:=11) rfl (by kernel_rfl) (by rfl) (fun K hK=>?_);go_simp;(go_at_call 52;(with_reducible refine (Hn.out n _).mono ?_);rintro e V2 ⟨rfl,hb⟩;have hs2:=hb.size;replace hS:=hS.keep hb;clear hb);refine hK.out _ _ hS.X.cell (fun hHeld2=>?_);clear hK K hHeld;have hHeld:=hHeld2;clear hHeld2;(try simp only [Act.put,sta_,scz_,scs_]))
   (refine call_op (i:=12) rfl (by kernel_rfl) (by rfl) (fun K hK=>?_);go_simp;skip;refine hK.out _ _ (hS.X.alloc (.cells #[.int .i64 0,.int .u64 (u64n i:Int),.string ByteArray.empty,.slice none 0 0,.int .i64 0,.int .u64 (u64n n:Int),.string ByteArray.empty,.slice none 0 0] 25)).cell (fun hHeld2=>?_);clear hK K hHeld;have hHeld:=hHeld2;clear hHeld2;(try simp only [Act.put,sta_,scz_,scs_]))
   have hsrc:=src_items (us:=[numV (u64n i),numV (u64n n)]) (cs:=#[.int .i64 0,.int .u64 (u64n i:Int),.string ByteArray.empty,.slice none 0 0,.int .i64 0,.int .u64 (u64n n:Int),.string ByteArray.empty,.slice none 0 0]) V2 (by simp [flatL,numV,Value.cells]) (fun u hu=>by simp at hu;rcases hu with rfl|rfl <;> first|exact four_num _ (u64n_lt _))
   have hba:=below_one (w:=V2) (.cells #[.int .i64 0,.int .u64 (u64n i:Int),.string ByteArray.empty,.slice none 0 0,.int .i64 0,.int .u64 (u64n n:Int),.string ByteArray.empty,.slice none 0 0] 25)
   have hu:∀(j:Nat) (t:Tree) (u:Value),([ntree i,ntree n]:List Tree)[j]? =some t→([numV (u64n i),numV (u64n n)]:List Value)[j]? =some u→HoldsIn (World.alloc V2 (.cells #[.int .i64 0,.int .u64 (u64n i:Int),.string ByteArray.empty,.slice none 0 0,.int .i64 0,.int .u64 (u64n n:Int),.string ByteArray.empty,.slice none 0 0] 25)) (fun b=>w.heap.size+2≤b∧b≠gx∧some b≠Value.ownBlock (.slice Ar 1 dr)) t u:=by
    intro j t u ht hu
    match j with|0=>(simp at ht hu;subst ht hu;exact hin_num _ _ (u64n_lt _))|1=>(simp at ht hu;subst ht hu;exact hin_num _ _ (u64n_lt _))|j+2=>simp at ht
   replace hS:=hS.keep hba
   clear hba
   revert hHeld hsrc hu hS
   generalize World.alloc V2 _=Wb
   generalize V2.heap.size=gs
   intro hHeld hsrc hu hS
   have hE:=And.intro hS (And.intro hsrc hu)
   refine anyH_listed (L':=#[true,true,true,true,true,true,true,true,true,true,true,true,true,false,false,false]) (by kernel_rfl) ?_
   clear hS hsrc hu hHeld
   revert hE
   revert Wb gs
   exact HJ.out
  ·(intro K hK;go_simp;(go_at_call 52;(with_reducible refine (Hn.out i _).mono ?_);rintro e V1 ⟨rfl,hb⟩;have hs1:=hb.size;replace hS:=hS.keep hb;clear hb);refine hK.out _ _ (hS.X.cell) (fun hHeld2=>?_);clear hK K hHeld;have hHeld:=hHeld2;clear hHeld2;(try simp only [Act.put,sta_,scz_,scs_]))
   refine two_op (i:=1) (j:=11) rfl rfl (by kernel_rfl) (by rfl) (by rfl) ?_ ?_
   ·have cG:=hS.G.cell
    (intro K hK;go_simp;skip;refine hK.out _ _ (hS.X.cell) (fun hHeld2=>?_);clear hK K hHeld;have hHeld:=hHeld2;clear hHeld2;(try simp only [Act.put,sta_,scz_,scs_]))
    clear cG
    (refine call_op (i:=11) rfl (by kernel_rfl) (by rfl) (fun K hK=>?_);go_simp;(go_at_call 52;(with_reducible refine (Hn.out n _).mono ?_);rintro e V2 ⟨rfl,hb⟩;have hs2:=hb.size;replace hS:=hS.keep hb;clear hb);refine hK.out _ _ hS.X.cell (fun hHeld2=>?_);clear hK K hHeld;have hHeld:=hHeld2;clear hHeld2;(try simp only [Act.put,sta_,scz_,scs_]))
    (refine call_op (i:=12) rfl (by kernel_rfl) (by rfl) (fun K hK=>?_);go_simp;skip;refine hK.out _ _ (hS.X.alloc (.cells #[.int .i64 0,.int .u64 (u64n i:Int),.string ByteArray.empty,.slice none 0 0,.int .i64 0,.int .u64 (u64n n:Int),.string ByteArray.empty,.slice none 0 0] 25)).cell (fun hHeld2=>?_);clear hK K hHeld;have hHeld:=hHeld2;clear hHeld2;(try simp only [Act.put,sta_,scz_,scs_]))
    have hsrc:=src_items (us:=[numV (u64n i),numV (u64n n)]) (cs:=#[.int .i64 0,.int .u64 (u64n i:Int),.string ByteArray.empty,.slice none 0 0,.int .i64 0,.int .u64 (u64n n:Int),.string ByteArray.empty,.slice none 0 0]) V2 (by simp [flatL,numV,Value.cells]) (fun u hu=>by simp at hu;rcases hu with rfl|rfl <;> first|exact four_num _ (u64n_lt _))
    have hba:=below_one (w:=V2) (.cells #[.int .i64 0,.int .u64 (u64n i:Int),.string ByteArray.empty,.slice none 0 0,.int .i64 0,.int .u64 (u64n n:Int),.string ByteArray.empty,.slice none 0 0] 25)
    have hu:∀(j:Nat) (t:Tree) (u:Value),([ntree i,ntree n]:List Tree)[j]? =some t→([numV (u64n i),numV (u64n n)]:List Value)[j]? =some u→HoldsIn (World.alloc V2 (.cells #[.int .i64 0,.int .u64 (u64n i:Int),.string ByteArray.empty,.slice none 0 0,.int .i64 0,.int .u64 (u64n n:Int),.string ByteArray.empty,.slice none 0 0] 25)) (fun b=>w.heap.size+2≤b∧b≠gx∧some b≠Value.ownBlock (.slice Ar 1 dr)) t u:=by
     intro j t u ht hu
     match j with|0=>(simp at ht hu;subst ht hu;exact hin_num _ _ (u64n_lt _))|1=>(simp at ht hu;subst ht hu;exact hin_num _ _ (u64n_lt _))|j+2=>simp at ht
    replace hS:=hS.keep hba
    clear hba
    revert hHeld hsrc hu hS
    generalize World.alloc V2 _=Wb
    generalize V2.heap.size=gs
    intro hHeld hsrc hu hS
    have hE:=And.intro hS (And.intro hsrc hu)
    refine anyH_listed (L':=#[true,true,true,true,true,true,true,true,true,true,true,true,true,false,false,false]) (by kernel_rfl) ?_
    have hj:=HJ.out
    exact hj _ _ hE
   ·(intro K hK;go_simp;(go_at_call 52;(with_reducible refine (Hn.out n _).mono ?_);rintro e V2 ⟨rfl,hb⟩;have hs2:=hb.size;replace hS:=hS.keep hb;clear hb);refine hK.out _ _ (hS.X.cell) (fun hHeld2=>?_);clear hK K hHeld;have hHeld:=hHeld2;clear hHeld2;(try simp only [Act.put,sta_,scz_,scs_]))
    refine two_op (i:=1) (j:=12) rfl rfl (by kernel_rfl) (by rfl) (by rfl) ?_ ?_
    ·have cG:=hS.G.cell
     (intro K hK;go_simp;skip;refine hK.out _ _ (hS.X.cell) (fun hHeld2=>?_);clear hK K hHeld;have hHeld:=hHeld2;clear hHeld2;(try simp only [Act.put,sta_,scz_,scs_]))
     clear cG
     (refine call_op (i:=12) rfl (by kernel_rfl) (by rfl) (fun K hK=>?_);go_simp;skip;refine hK.out _ _ (hS.X.alloc (.cells #[.int .i64 0,.int .u64 (u64n i:Int),.string ByteArray.empty,.slice none 0 0,.int .i64 0,.int .u64 (u64n n:Int),.string ByteArray.empty,.slice none 0 0] 25)).cell (fun hHeld2=>?_);clear hK K hHeld;have hHeld:=hHeld2;clear hHeld2;(try simp only [Act.put,sta_,scz_,scs_]))
     have hsrc:=src_items (us:=[numV (u64n i),numV (u64n n)]) (cs:=#[.int .i64 0,.int .u64 (u64n i:Int),.string ByteArray.empty,.slice none 0 0,.int .i64 0,.int .u64 (u64n n:Int),.string ByteArray.empty,.slice none 0 0]) V2 (by simp [flatL,numV,Value.cells]) (fun u hu=>by simp at hu;rcases hu with rfl|rfl <;> first|exact four_num _ (u64n_lt _))
     have hba:=below_one (w:=V2) (.cells #[.int .i64 0,.int .u64 (u64n i:Int),.string ByteArray.empty,.slice none 0 0,.int .i64 0,.int .u64 (u64n n:Int),.string ByteArray.empty,.slice none 0 0] 25)
     have hu:∀(j:Nat) (t:Tree) (u:Value),([ntree i,ntree n]:List Tree)[j]? =some t→([numV (u64n i),numV (u64n n)]:List Value)[j]? =some u→HoldsIn (World.alloc V2 (.cells #[.int .i64 0,.int .u64 (u64n i:Int),.string ByteArray.empty,.slice none 0 0,.int .i64 0,.int .u64 (u64n n:Int),.string ByteArray.empty,.slice none 0 0] 25)) (fun b=>w.heap.size+2≤b∧b≠gx∧some b≠Value.ownBlock (.slice Ar 1 dr)) t u:=by
      intro j t u ht hu
      match j with|0=>(simp at ht hu;subst ht hu;exact hin_num _ _ (u64n_lt _))|1=>(simp at ht hu;subst ht hu;exact hin_num _ _ (u64n_lt _))|j+2=>simp at ht
     replace hS:=hS.keep hba
     clear hba
     revert hHeld hsrc hu hS
     generalize World.alloc V2 _=Wb
     generalize V2.heap.size=gs
     intro hHeld hsrc hu hS
     have hE:=And.intro hS (And.intro hsrc hu)
     refine anyH_listed (L':=#[true,true,true,true,true,true,true,true,true,true,true,true,true,false,false,false]) (by kernel_rfl) ?_
     have hj:=HJ.out
     exact hj _ _ hE
    ·(intro K hK;go_simp;skip;refine hK.out _ _ ((hS.X.alloc (.cells #[.int .i64 0,.int .u64 (u64n i:Int),.string ByteArray.empty,.slice none 0 0,.int .i64 0,.int .u64 (u64n n:Int),.string ByteArray.empty,.slice none 0 0] 25)).cell) (fun hHeld2=>?_);clear hK K hHeld;have hHeld:=hHeld2;clear hHeld2;(try simp only [Act.put,sta_,scz_,scs_]))
     have hsrc:=src_items (us:=[numV (u64n i),numV (u64n n)]) (cs:=#[.int .i64 0,.int .u64 (u64n i:Int),.string ByteArray.empty,.slice none 0 0,.int .i64 0,.int .u64 (u64n n:Int),.string ByteArray.empty,.slice none 0 0]) V2 (by simp [flatL,numV,Value.cells]) (fun u hu=>by simp at hu;rcases hu with rfl|rfl <;> first|exact four_num _ (u64n_lt _))
     have hba:=below_one (w:=V2) (.cells #[.int .i64 0,.int .u64 (u64n i:Int),.string ByteArray.empty,.slice none 0 0,.int .i64 0,.int .u64 (u64n n:Int),.string ByteArray.empty,.slice none 0 0] 25)
     have hu:∀(j:Nat) (t:Tree) (u:Value),([ntree i,ntree n]:List Tree)[j]? =some t→([numV (u64n i),numV (u64n n)]:List Value)[j]? =some u→HoldsIn (World.alloc V2 (.cells #[.int .i64 0,.int .u64 (u64n i:Int),.string ByteArray.empty,.slice none 0 0,.int .i64 0,.int .u64 (u64n n:Int),.string ByteArray.empty,.slice none 0 0] 25)) (fun b=>w.heap.size+2≤b∧b≠gx∧some b≠Value.ownBlock (.slice Ar 1 dr)) t u:=by
      intro j t u ht hu
      match j with|0=>(simp at ht hu;subst ht hu;exact hin_num _ _ (u64n_lt _))|1=>(simp at ht hu;subst ht hu;exact hin_num _ _ (u64n_lt _))|j+2=>simp at ht
     replace hS:=hS.keep hba
     clear hba
     revert hHeld hsrc hu hS
     generalize World.alloc V2 _=Wb
     generalize V2.heap.size=gs
     intro hHeld hsrc hu hS
     have cG:=hS.G.cell
     (refine call_op (i:=1) rfl (by kernel_rfl) (by rfl) (fun K hK=>?_);go_simp;skip;refine hK.out _ _ hS.X.cell (fun hHeld2=>?_);clear hK K hHeld;have hHeld:=hHeld2;clear hHeld2;(try simp only [Act.put,sta_,scz_,scs_]))
     clear cG
     have hE:=And.intro hS (And.intro hsrc hu)
     refine anyH_listed (L':=#[true,true,true,true,true,true,true,true,true,true,true,true,true,false,false,false]) (by kernel_rfl) ?_
     have hj:=HJ.out
     exact hj _ _ hE
 intro Wb gs hE
 obtain ⟨hS',hsrc,hu⟩:=hE
 have hHeld:S1 w.heap.size #[.int .i64 k,.int .i64 i,.int .i64 n,.int .i64 br,.int .i64 bb,.int .i64 tr,.int .i64 tb,.int .i64 st,.int .i64 ck,.int .i64 cc,.int .i64 cq,.string cy,.string cx,.int .i64 cr,.slice A m cap,.int .i64 sq,.int .i64 tg,.int .i64 ver] Wb:=hS'.X.cell
 have hzz:=hS'.hz
 (refine call_op (i:=13) rfl (by kernel_rfl) (by rfl) (fun K hK=>?_);((refine wp_app _ (.tmp 17) (.tmp 28) 23 rfl _ 25 i1 _ 4 56 Tryd.underlying23 hi hz0 hz1 hz2 rfl (by omega) _ _ _ rfl hS'.P.own _ _ _ _ rfl hsrc ?h63 ?hby ?hbase ?_);(case h63=>(unfold maxLen;first|omega|(simp;done)|(simp;omega)));(case hby=>first|omega|(simp;done)|(simp;omega));(case hbase=>first|omega|(simp;done)|(simp;omega));intro v4 w4 hownw4 hgroww4 hatw4 holdw4);obtain ⟨X4,G4,S4⟩:=hS'.app (ts:=[ntree i,ntree n]) (us':=[numV (u64n i),numV (u64n n)]) (n':=3) rfl rfl hu hownw4 hgroww4 hatw4;refine hK.out _ _ X4.cell (fun hHeld2=>?_);clear hK K hHeld;have hHeld:=hHeld2;clear hHeld2;(try simp only [Act.put,sta_,scz_,scs_]))
 clear hS' hzz hsrc hu hownw4 hgroww4 hatw4 holdw4
 obtain ⟨A4,c4,rfl,_,_⟩:=S4.P.form
 have cG:=G4.cell
 have fG:=G4.frozen
 (refine take_op (i:=14) (v:=?_) rfl (by kernel_rfl) (by kernel_rfl) (by kernel_rfl) (fun _ _ _ h=>h) (by rfl) ?_ hHeld ?_;rotate_left;(· (intro wS hSw;(try dsimp only at hSw);go_simp;first|done|with_reducible rfl));simp only [Act.put,sta_,scz_,scs_])
 (refine call_op (i:=15) rfl (by kernel_rfl) (by rfl) (fun K hK=>?_);go_simp;skip;refine hK.out _ _ S4.X.cell (fun hHeld2=>?_);clear hK K hHeld;have hHeld:=hHeld2;clear hHeld2;(try simp only [Act.put,sta_,scz_,scs_]))
 (refine wpAnyH_done (by kernel_rfl) ?_ _)
 clear hHeld X4 G4 cG fG
 revert S4
 generalize World.setCell _ _ _=W
 generalize A4=Ar
 generalize c4=dr
 intro hS
 have cH:=hS.Hh.cell
 have cX:=hS.X.cell
 go_upto_region 6 with fail
 replace hS:=hS.keep (Below.refl _ _).drew
 clear cH cX
 (refine wp_region_held_drew (S:=(S1 w.heap.size #[.int .i64 k,.int .i64 i,.int .i64 n,.int .i64 br,.int .i64 bb,.int .i64 tr,.int .i64 tb,.int .i64 st,.int .i64 ck,.int .i64 cc,.int .i64 cq,.string cy,.string cx,.int .i64 cr,.slice A m cap,.int .i64 sq,.int .i64 tg,.int .i64 ver])) (by kernel_rfl) ?_ (fun hHeld=>?_);(· exact hS.X.cell))
 revert hHeld hS
 generalize World.drew _=W1
 revert W1
 apply join
 ·intro hJ
  have HJ:=Lib.hid hJ
  clear hJ
  intro W1 hS hHeld
  (refine take_op (i:=0) (v:=?_) rfl (by kernel_rfl) (by kernel_rfl) (by kernel_rfl) (fun _ _ _ h=>h) (by rfl) ?_ hHeld ?_;rotate_left;(· (intro wS hSw;(try dsimp only at hSw);go_simp;first|done|with_reducible rfl));simp only [Act.put,sta_,scz_,scs_]);(refine take_op (i:=2) (v:=?_) rfl (by kernel_rfl) (by kernel_rfl) (by kernel_rfl) (fun _ _ _ h=>h) (by rfl) ?_ hHeld ?_;rotate_left;(· (intro wS hSw;(try dsimp only at hSw);go_simp;first|done|with_reducible rfl));simp only [Act.put,sta_,scz_,scs_]);(refine take_op (i:=3) (v:=?_) rfl (by kernel_rfl) (by kernel_rfl) (by kernel_rfl) (fun _ _ _ h=>h) (by rfl) ?_ hHeld ?_;rotate_left;(· (intro wS hSw;(try dsimp only at hSw);go_simp;first|done|with_reducible rfl));simp only [Act.put,sta_,scz_,scs_])
  have Fr:=hS.P.fresh hS.G.lt hS.hz
  refine two_op (i:=1) (j:=4) rfl rfl (by kernel_rfl) (by rfl) (by rfl) ?_ ?_
  ·have cG:=hS.G.cell
   (intro K hK;go_simp;skip;refine hK.out _ _ (hS.X.cell) (fun hHeld2=>?_);clear hK K hHeld;have hHeld:=hHeld2;clear hHeld2;(try simp only [Act.put,sta_,scz_,scs_]))
   clear cG
   (refine call_op (i:=4) rfl (by kernel_rfl) (by rfl) (fun K hK=>?_);go_simp;(go_at_call 56;(with_reducible refine (Hb.out br bb _).mono ?_);rintro e V1 ⟨B1,d1,rfl,hin,hb⟩;have Q1:=Fr _ _ _ _ (Nat.le_refl _) hin;have hs1:=hb.size;replace hS:=hS.keep hb;clear hb;clear hin);refine hK.out _ _ hS.X.cell (fun hHeld2=>?_);clear hK K hHeld;have hHeld:=hHeld2;clear hHeld2;(try simp only [Act.put,sta_,scz_,scs_]))
   (refine call_op (i:=5) rfl (by kernel_rfl) (by rfl) (fun K hK=>?_);go_simp;skip;refine hK.out _ _ (hS.X.alloc (.cells #[.int .i64 2,.int .u64 0,.string ByteArray.empty,.slice B1 2 d1] 25)).cell (fun hHeld2=>?_);clear hK K hHeld;have hHeld:=hHeld2;clear hHeld2;(try simp only [Act.put,sta_,scz_,scs_]))
   have hsrc:=src_items (us:=[listV B1 2 d1]) (cs:=#[.int .i64 2,.int .u64 0,.string ByteArray.empty,.slice B1 2 d1]) V1 (by simp [flatL,numV,Value.cells]) (fun u hu=>by simp at hu;subst hu;exact Q1.four)
   have hba:=below_one (w:=V1) (.cells #[.int .i64 2,.int .u64 0,.string ByteArray.empty,.slice B1 2 d1] 25)
   have hu:∀(j:Nat) (t:Tree) (u:Value),([btree br bb]:List Tree)[j]? =some t→([listV B1 2 d1]:List Value)[j]? =some u→HoldsIn (World.alloc V1 (.cells #[.int .i64 2,.int .u64 0,.string ByteArray.empty,.slice B1 2 d1] 25)) (fun b=>w.heap.size+2≤b∧b≠gx∧some b≠Value.ownBlock (.slice Ar 3 dr)) t u:=by
    intro j t u ht hu
    match j with|0=>(simp at ht hu;subst ht hu;exact Q1.under hba)|j+1=>simp at ht
   replace hS:=hS.keep hba
   clear hba
   revert hHeld hsrc hu hS
   generalize World.alloc V1 _=Wb
   generalize V1.heap.size=gs
   intro hHeld hsrc hu hS
   have hE:=And.intro hS (And.intro hsrc hu)
   refine anyH_listed (L':=#[true,true,true,true,true,true,false,false,false]) (by kernel_rfl) ?_
   clear hS hsrc hu hHeld Q1
   revert hE
   revert Wb gs
   revert B1 d1
   exact HJ.out
  ·(intro K hK;go_simp;(go_at_call 56;(with_reducible refine (Hb.out br bb _).mono ?_);rintro e V1 ⟨B1,d1,rfl,hin,hb⟩;have Q1:=Fr _ _ _ _ (Nat.le_refl _) hin;have hs1:=hb.size;replace hS:=hS.keep hb;clear hb;clear hin);refine hK.out _ _ (hS.X.cell) (fun hHeld2=>?_);clear hK K hHeld;have hHeld:=hHeld2;clear hHeld2;(try simp only [Act.put,sta_,scz_,scs_]))
   refine two_op (i:=1) (j:=5) rfl rfl (by kernel_rfl) (by rfl) (by rfl) ?_ ?_
   ·have cG:=hS.G.cell
    (intro K hK;go_simp;skip;refine hK.out _ _ (hS.X.cell) (fun hHeld2=>?_);clear hK K hHeld;have hHeld:=hHeld2;clear hHeld2;(try simp only [Act.put,sta_,scz_,scs_]))
    clear cG
    (refine call_op (i:=5) rfl (by kernel_rfl) (by rfl) (fun K hK=>?_);go_simp;skip;refine hK.out _ _ (hS.X.alloc (.cells #[.int .i64 2,.int .u64 0,.string ByteArray.empty,.slice B1 2 d1] 25)).cell (fun hHeld2=>?_);clear hK K hHeld;have hHeld:=hHeld2;clear hHeld2;(try simp only [Act.put,sta_,scz_,scs_]))
    have hsrc:=src_items (us:=[listV B1 2 d1]) (cs:=#[.int .i64 2,.int .u64 0,.string ByteArray.empty,.slice B1 2 d1]) V1 (by simp [flatL,numV,Value.cells]) (fun u hu=>by simp at hu;subst hu;exact Q1.four)
    have hba:=below_one (w:=V1) (.cells #[.int .i64 2,.int .u64 0,.string ByteArray.empty,.slice B1 2 d1] 25)
    have hu:∀(j:Nat) (t:Tree) (u:Value),([btree br bb]:List Tree)[j]? =some t→([listV B1 2 d1]:List Value)[j]? =some u→HoldsIn (World.alloc V1 (.cells #[.int .i64 2,.int .u64 0,.string ByteArray.empty,.slice B1 2 d1] 25)) (fun b=>w.heap.size+2≤b∧b≠gx∧some b≠Value.ownBlock (.slice Ar 3 dr)) t u:=by
     intro j t u ht hu
     match j with|0=>(simp at ht hu;subst ht hu;exact Q1.under hba)|j+1=>simp at ht
    replace hS:=hS.keep hba
    clear hba
    revert hHeld hsrc hu hS
    generalize World.alloc V1 _=Wb
    generalize V1.heap.size=gs
    intro hHeld hsrc hu hS
    have hE:=And.intro hS (And.intro hsrc hu)
    refine anyH_listed (L':=#[true,true,true,true,true,true,false,false,false]) (by kernel_rfl) ?_
    have hj:=HJ.out
    exact hj _ _ _ _ hE
   ·(intro K hK;go_simp;skip;refine hK.out _ _ ((hS.X.alloc (.cells #[.int .i64 2,.int .u64 0,.string ByteArray.empty,.slice B1 2 d1] 25)).cell) (fun hHeld2=>?_);clear hK K hHeld;have hHeld:=hHeld2;clear hHeld2;(try simp only [Act.put,sta_,scz_,scs_]))
    have hsrc:=src_items (us:=[listV B1 2 d1]) (cs:=#[.int .i64 2,.int .u64 0,.string ByteArray.empty,.slice B1 2 d1]) V1 (by simp [flatL,numV,Value.cells]) (fun u hu=>by simp at hu;subst hu;exact Q1.four)
    have hba:=below_one (w:=V1) (.cells #[.int .i64 2,.int .u64 0,.string ByteArray.empty,.slice B1 2 d1] 25)
    have hu:∀(j:Nat) (t:Tree) (u:Value),([btree br bb]:List Tree)[j]? =some t→([listV B1 2 d1]:List Value)[j]? =some u→HoldsIn (World.alloc V1 (.cells #[.int .i64 2,.int .u64 0,.string ByteArray.empty,.slice B1 2 d1] 25)) (fun b=>w.heap.size+2≤b∧b≠gx∧some b≠Value.ownBlock (.slice Ar 3 dr)) t u:=by
     intro j t u ht hu
     match j with|0=>(simp at ht hu;subst ht hu;exact Q1.under hba)|j+1=>simp at ht
    replace hS:=hS.keep hba
    clear hba
    revert hHeld hsrc hu hS
    generalize World.alloc V1 _=Wb
    generalize V1.heap.size=gs
    intro hHeld hsrc hu hS
    have cG:=hS.G.cell
    (refine call_op (i:=1) rfl (by kernel_rfl) (by rfl) (fun K hK=>?_);go_simp;skip;refine hK.out _ _ hS.X.cell (fun hHeld2=>?_);clear hK K hHeld;have hHeld:=hHeld2;clear hHeld2;(try simp only [Act.put,sta_,scz_,scs_]))
    clear cG
    have hE:=And.intro hS (And.intro hsrc hu)
    refine anyH_listed (L':=#[true,true,true,true,true,true,false,false,false]) (by kernel_rfl) ?_
    have hj:=HJ.out
    exact hj _ _ _ _ hE
 intro B1 d1 Wb gs hE
 obtain ⟨hS',hsrc,hu⟩:=hE
 have hHeld:S1 w.heap.size #[.int .i64 k,.int .i64 i,.int .i64 n,.int .i64 br,.int .i64 bb,.int .i64 tr,.int .i64 tb,.int .i64 st,.int .i64 ck,.int .i64 cc,.int .i64 cq,.string cy,.string cx,.int .i64 cr,.slice A m cap,.int .i64 sq,.int .i64 tg,.int .i64 ver] Wb:=hS'.X.cell
 have hzz:=hS'.hz
 (refine call_op (i:=6) rfl (by kernel_rfl) (by rfl) (fun K hK=>?_);((refine wp_app _ (.tmp 34) (.tmp 38) 23 rfl _ 25 i1 _ 4 56 Tryd.underlying23 hi hz0 hz1 hz2 rfl (by omega) _ _ _ rfl hS'.P.own _ _ _ _ rfl hsrc ?h63 ?hby ?hbase ?_);(case h63=>(unfold maxLen;first|omega|(simp;done)|(simp;omega)));(case hby=>first|omega|(simp;done)|(simp;omega));(case hbase=>first|omega|(simp;done)|(simp;omega));intro v4 w4 hownw4 hgroww4 hatw4 holdw4);obtain ⟨X4,G4,S4⟩:=hS'.app (ts:=[btree br bb]) (us':=[listV B1 2 d1]) (n':=4) rfl rfl hu hownw4 hgroww4 hatw4;refine hK.out _ _ X4.cell (fun hHeld2=>?_);clear hK K hHeld;have hHeld:=hHeld2;clear hHeld2;(try simp only [Act.put,sta_,scz_,scs_]))
 clear hS' hzz hsrc hu hownw4 hgroww4 hatw4 holdw4
 obtain ⟨A4,c4,rfl,_,_⟩:=S4.P.form
 have cG:=G4.cell
 have fG:=G4.frozen
 (refine take_op (i:=7) (v:=?_) rfl (by kernel_rfl) (by kernel_rfl) (by kernel_rfl) (fun _ _ _ h=>h) (by rfl) ?_ hHeld ?_;rotate_left;(· (intro wS hSw;(try dsimp only at hSw);go_simp;first|done|with_reducible rfl));simp only [Act.put,sta_,scz_,scs_])
 (refine call_op (i:=8) rfl (by kernel_rfl) (by rfl) (fun K hK=>?_);go_simp;skip;refine hK.out _ _ S4.X.cell (fun hHeld2=>?_);clear hK K hHeld;have hHeld:=hHeld2;clear hHeld2;(try simp only [Act.put,sta_,scz_,scs_]))
 (refine wpAnyH_done (by kernel_rfl) ?_ _)
 clear hHeld X4 G4 cG fG
 revert S4
 generalize World.setCell _ _ _=W
 generalize A4=Ar
 generalize c4=dr
 intro hS
 have cH:=hS.Hh.cell
 have cX:=hS.X.cell
 go_upto_region 12 with fail
 replace hS:=hS.keep (Below.refl _ _).drew
 clear cH cX
 (refine wp_region_held_drew (S:=(S1 w.heap.size #[.int .i64 k,.int .i64 i,.int .i64 n,.int .i64 br,.int .i64 bb,.int .i64 tr,.int .i64 tb,.int .i64 st,.int .i64 ck,.int .i64 cc,.int .i64 cq,.string cy,.string cx,.int .i64 cr,.slice A m cap,.int .i64 sq,.int .i64 tg,.int .i64 ver])) (by kernel_rfl) ?_ (fun hHeld=>?_);(· exact hS.X.cell))
 revert hHeld hS
 generalize World.drew _=W1
 revert W1
 apply join
 ·intro hJ
  have HJ:=Lib.hid hJ
  clear hJ
  intro W1 hS hHeld
  (refine take_op (i:=0) (v:=?_) rfl (by kernel_rfl) (by kernel_rfl) (by kernel_rfl) (fun _ _ _ h=>h) (by rfl) ?_ hHeld ?_;rotate_left;(· (intro wS hSw;(try dsimp only at hSw);go_simp;first|done|with_reducible rfl));simp only [Act.put,sta_,scz_,scs_]);(refine take_op (i:=2) (v:=?_) rfl (by kernel_rfl) (by kernel_rfl) (by kernel_rfl) (fun _ _ _ h=>h) (by rfl) ?_ hHeld ?_;rotate_left;(· (intro wS hSw;(try dsimp only at hSw);go_simp;first|done|with_reducible rfl));simp only [Act.put,sta_,scz_,scs_]);(refine take_op (i:=3) (v:=?_) rfl (by kernel_rfl) (by kernel_rfl) (by kernel_rfl) (fun _ _ _ h=>h) (by rfl) ?_ hHeld ?_;rotate_left;(· (intro wS hSw;(try dsimp only at hSw);go_simp;first|done|with_reducible rfl));simp only [Act.put,sta_,scz_,scs_])
  have Fr:=hS.P.fresh hS.G.lt hS.hz
  refine two_op (i:=1) (j:=4) rfl rfl (by kernel_rfl) (by rfl) (by rfl) ?_ ?_
  ·have cG:=hS.G.cell
   (intro K hK;go_simp;skip;refine hK.out _ _ (hS.X.cell) (fun hHeld2=>?_);clear hK K hHeld;have hHeld:=hHeld2;clear hHeld2;(try simp only [Act.put,sta_,scz_,scs_]))
   clear cG
   (refine call_op (i:=4) rfl (by kernel_rfl) (by rfl) (fun K hK=>?_);go_simp;(go_at_call 58;(with_reducible refine (Ha.out _ hS.kk).mono ?_);rintro e V1 ⟨B1,d1,rfl,hin,hb⟩;have Q1:=Fr _ _ _ _ (Nat.le_refl _) hin;have hs1:=hb.size;replace hS:=hS.keep hb;clear hb;clear hin);refine hK.out _ _ hS.X.cell (fun hHeld2=>?_);clear hK K hHeld;have hHeld:=hHeld2;clear hHeld2;(try simp only [Act.put,sta_,scz_,scs_]))
   (refine call_op (i:=5) rfl (by kernel_rfl) (by rfl) (fun K hK=>?_);go_simp;skip;refine hK.out _ _ (hS.X.alloc (.cells #[.int .i64 2,.int .u64 0,.string ByteArray.empty,.slice B1 3 d1] 25)).cell (fun hHeld2=>?_);clear hK K hHeld;have hHeld:=hHeld2;clear hHeld2;(try simp only [Act.put,sta_,scz_,scs_]))
   have hsrc:=src_items (us:=[listV B1 3 d1]) (cs:=#[.int .i64 2,.int .u64 0,.string ByteArray.empty,.slice B1 3 d1]) V1 (by simp [flatL,numV,Value.cells]) (fun u hu=>by simp at hu;subst hu;exact Q1.four)
   have hba:=below_one (w:=V1) (.cells #[.int .i64 2,.int .u64 0,.string ByteArray.empty,.slice B1 3 d1] 25)
   have hu:∀(j:Nat) (t:Tree) (u:Value),([atree l sq tg]:List Tree)[j]? =some t→([listV B1 3 d1]:List Value)[j]? =some u→HoldsIn (World.alloc V1 (.cells #[.int .i64 2,.int .u64 0,.string ByteArray.empty,.slice B1 3 d1] 25)) (fun b=>w.heap.size+2≤b∧b≠gx∧some b≠Value.ownBlock (.slice Ar 4 dr)) t u:=by
    intro j t u ht hu
    match j with|0=>(simp at ht hu;subst ht hu;exact Q1.under hba)|j+1=>simp at ht
   replace hS:=hS.keep hba
   clear hba
   revert hHeld hsrc hu hS
   generalize World.alloc V1 _=Wb
   generalize V1.heap.size=gs
   intro hHeld hsrc hu hS
   have hE:=And.intro hS (And.intro hsrc hu)
   refine anyH_listed (L':=#[true,true,true,true,true,true,false,false,false]) (by kernel_rfl) ?_
   clear hS hsrc hu hHeld Q1
   revert hE
   revert Wb gs
   revert B1 d1
   exact HJ.out
  ·(intro K hK;go_simp;(go_at_call 58;(with_reducible refine (Ha.out _ hS.kk).mono ?_);rintro e V1 ⟨B1,d1,rfl,hin,hb⟩;have Q1:=Fr _ _ _ _ (Nat.le_refl _) hin;have hs1:=hb.size;replace hS:=hS.keep hb;clear hb;clear hin);refine hK.out _ _ (hS.X.cell) (fun hHeld2=>?_);clear hK K hHeld;have hHeld:=hHeld2;clear hHeld2;(try simp only [Act.put,sta_,scz_,scs_]))
   refine two_op (i:=1) (j:=5) rfl rfl (by kernel_rfl) (by rfl) (by rfl) ?_ ?_
   ·have cG:=hS.G.cell
    (intro K hK;go_simp;skip;refine hK.out _ _ (hS.X.cell) (fun hHeld2=>?_);clear hK K hHeld;have hHeld:=hHeld2;clear hHeld2;(try simp only [Act.put,sta_,scz_,scs_]))
    clear cG
    (refine call_op (i:=5) rfl (by kernel_rfl) (by rfl) (fun K hK=>?_);go_simp;skip;refine hK.out _ _ (hS.X.alloc (.cells #[.int .i64 2,.int .u64 0,.string ByteArray.empty,.slice B1 3 d1] 25)).cell (fun hHeld2=>?_);clear hK K hHeld;have hHeld:=hHeld2;clear hHeld2;(try simp only [Act.put,sta_,scz_,scs_]))
    have hsrc:=src_items (us:=[listV B1 3 d1]) (cs:=#[.int .i64 2,.int .u64 0,.string ByteArray.empty,.slice B1 3 d1]) V1 (by simp [flatL,numV,Value.cells]) (fun u hu=>by simp at hu;subst hu;exact Q1.four)
    have hba:=below_one (w:=V1) (.cells #[.int .i64 2,.int .u64 0,.string ByteArray.empty,.slice B1 3 d1] 25)
    have hu:∀(j:Nat) (t:Tree) (u:Value),([atree l sq tg]:List Tree)[j]? =some t→([listV B1 3 d1]:List Value)[j]? =some u→HoldsIn (World.alloc V1 (.cells #[.int .i64 2,.int .u64 0,.string ByteArray.empty,.slice B1 3 d1] 25)) (fun b=>w.heap.size+2≤b∧b≠gx∧some b≠Value.ownBlock (.slice Ar 4 dr)) t u:=by
     intro j t u ht hu
     match j with|0=>(simp at ht hu;subst ht hu;exact Q1.under hba)|j+1=>simp at ht
    replace hS:=hS.keep hba
    clear hba
    revert hHeld hsrc hu hS
    generalize World.alloc V1 _=Wb
    generalize V1.heap.size=gs
    intro hHeld hsrc hu hS
    have hE:=And.intro hS (And.intro hsrc hu)
    refine anyH_listed (L':=#[true,true,true,true,true,true,false,false,false]) (by kernel_rfl) ?_
    have hj:=HJ.out
    exact hj _ _ _ _ hE
   ·(intro K hK;go_simp;skip;refine hK.out _ _ ((hS.X.alloc (.cells #[.int .i64 2,.int .u64 0,.string ByteArray.empty,.slice B1 3 d1] 25)).cell) (fun hHeld2=>?_);clear hK K hHeld;have hHeld:=hHeld2;clear hHeld2;(try simp only [Act.put,sta_,scz_,scs_]))
    have hsrc:=src_items (us:=[listV B1 3 d1]) (cs:=#[.int .i64 2,.int .u64 0,.string ByteArray.empty,.slice B1 3 d1]) V1 (by simp [flatL,numV,Value.cells]) (fun u hu=>by simp at hu;subst hu;exact Q1.four)
    have hba:=below_one (w:=V1) (.cells #[.int .i64 2,.int .u64 0,.string ByteArray.empty,.slice B1 3 d1] 25)
    have hu:∀(j:Nat) (t:Tree) (u:Value),([atree l sq tg]:List Tree)[j]? =some t→([listV B1 3 d1]:List Value)[j]? =some u→HoldsIn (World.alloc V1 (.cells #[.int .i64 2,.int .u64 0,.string ByteArray.empty,.slice B1 3 d1] 25)) (fun b=>w.heap.size+2≤b∧b≠gx∧some b≠Value.ownBlock (.slice Ar 4 dr)) t u:=by
     intro j t u ht hu
     match j with|0=>(simp at ht hu;subst ht hu;exact Q1.under hba)|j+1=>simp at ht
    replace hS:=hS.keep hba
    clear hba
    revert hHeld hsrc hu hS
    generalize World.alloc V1 _=Wb
    generalize V1.heap.size=gs
    intro hHeld hsrc hu hS
    have cG:=hS.G.cell
    (refine call_op (i:=1) rfl (by kernel_rfl) (by rfl) (fun K hK=>?_);go_simp;skip;refine hK.out _ _ hS.X.cell (fun hHeld2=>?_);clear hK K hHeld;have hHeld:=hHeld2;clear hHeld2;(try simp only [Act.put,sta_,scz_,scs_]))
    clear cG
    have hE:=And.intro hS (And.intro hsrc hu)
    refine anyH_listed (L':=#[true,true,true,true,true,true,false,false,false]) (by kernel_rfl) ?_
    have hj:=HJ.out
    exact hj _ _ _ _ hE
 intro B1 d1 Wb gs hE
 obtain ⟨hS',hsrc,hu⟩:=hE
 have hHeld:S1 w.heap.size #[.int .i64 k,.int .i64 i,.int .i64 n,.int .i64 br,.int .i64 bb,.int .i64 tr,.int .i64 tb,.int .i64 st,.int .i64 ck,.int .i64 cc,.int .i64 cq,.string cy,.string cx,.int .i64 cr,.slice A m cap,.int .i64 sq,.int .i64 tg,.int .i64 ver] Wb:=hS'.X.cell
 have hzz:=hS'.hz
 (refine call_op (i:=6) rfl (by kernel_rfl) (by rfl) (fun K hK=>?_);((refine wp_app _ (.tmp 68) (.tmp 72) 23 rfl _ 25 i1 _ 4 56 Tryd.underlying23 hi hz0 hz1 hz2 rfl (by omega) _ _ _ rfl hS'.P.own _ _ _ _ rfl hsrc ?h63 ?hby ?hbase ?_);(case h63=>(unfold maxLen;first|omega|(simp;done)|(simp;omega)));(case hby=>first|omega|(simp;done)|(simp;omega));(case hbase=>first|omega|(simp;done)|(simp;omega));intro v4 w4 hownw4 hgroww4 hatw4 holdw4);obtain ⟨X4,G4,S4⟩:=hS'.app (ts:=[atree l sq tg]) (us':=[listV B1 3 d1]) (n':=5) rfl rfl hu hownw4 hgroww4 hatw4;refine hK.out _ _ X4.cell (fun hHeld2=>?_);clear hK K hHeld;have hHeld:=hHeld2;clear hHeld2;(try simp only [Act.put,sta_,scz_,scs_]))
 clear hS' hzz hsrc hu hownw4 hgroww4 hatw4 holdw4
 obtain ⟨A4,c4,rfl,_,_⟩:=S4.P.form
 have cG:=G4.cell
 have fG:=G4.frozen
 (refine take_op (i:=7) (v:=?_) rfl (by kernel_rfl) (by kernel_rfl) (by kernel_rfl) (fun _ _ _ h=>h) (by rfl) ?_ hHeld ?_;rotate_left;(· (intro wS hSw;(try dsimp only at hSw);go_simp;first|done|with_reducible rfl));simp only [Act.put,sta_,scz_,scs_])
 (refine call_op (i:=8) rfl (by kernel_rfl) (by rfl) (fun K hK=>?_);go_simp;skip;refine hK.out _ _ S4.X.cell (fun hHeld2=>?_);clear hK K hHeld;have hHeld:=hHeld2;clear hHeld2;(try simp only [Act.put,sta_,scz_,scs_]))
 (refine wpAnyH_done (by kernel_rfl) ?_ _)
 clear hHeld X4 G4 cG fG
 revert S4
 generalize World.setCell _ _ _=W
 generalize A4=Ar
 generalize c4=dr
 intro hS
 have cH:=hS.Hh.cell
 have cX:=hS.X.cell
 have cG:=hS.G.cell
 have cR:=hS.R.cell
 have fR:=hS.R.frozen
 have hz:=hS.hz
 have kk:=hS.kk
 go_wp2_with fail
 refine bodyPost_ret (v:=listV Ar 5 dr) (by simp [results,Tryd.results35,go_sem, *] <;> rfl) rfl ?_
 rw [←HRES.out]
 exact ⟨Ar,5,dr,rfl,(hin_set4 hS.P.node (by omega) _ _ _ _).mono (fun b hb=>by omega),blw⟩
end Go.Proofs.YtlolnakeancenaaDoor
