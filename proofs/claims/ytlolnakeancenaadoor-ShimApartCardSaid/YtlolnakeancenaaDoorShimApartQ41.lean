/- The walk of msg.Put. The walk of msg.Take: the message of any bytes. The walk of stonecroplaw10.awake. A message in the old form: plain. The walk of shim.Up: the old form of a right message; what is not opened. The walk of shim.Down. The walk of stonecroplaw11.awake. The walk of shim.Read, as Up or msg.Take answer. What the walks of the laws ShimApart and ShimCut share. -/
import Derived.Test.YtlolnakeancenaaDoorShimApartQ40
import Derived.Test.YtlolnakeancenaaDoorShimApartQ18
import Derived.Test.YtlolnakeancenaaDoorShimApartQ36
import Derived.Test.YtlolnakeancenaaDoorShimApartQ39
import Derived.Test.YtlolnakeancenaaDoorShimApartQ4
import Derived.Test.YtlolnakeancenaaDoorShimApartQ19
import Derived.WalkKit
import Derived.WalkSpells
import Derived.WalkLawsBesides
import Derived.Deep.RegionHeld3
import Derived.Deep.DrawnRows
import Derived.Deep.DeepCutAuto
import Derived.Deep.DeepFit
import Derived.Lib.Hide
import Derived.BigQuiet
import Derived.Deep.QuietTactic
import Derived.LoopN
namespace Go.Proofs.YtlolnakeancenaaDoor
open Go.RowKit
set_option linter.unusedVariables false
set_option linter.unusedSimpArgs false
set_option maxRecDepth 20000
attribute [local go_sem ↓] Go.wp_at_zero Go.wp_at_succ
attribute [local go_sem] World.cell?_alloc_some frozen_alloc_some
attribute [local go_sem ↓ high] loadVar_msg storeVar_msg msg_store_new
/-- The bytes of a message's new form, and the error's number. -/
def putL (M:MsgT):List Nat:=if mok M=true then (if perr (ltree (mparts M))=0 then mframe 2 (pform (ltree (mparts M))) else []) else []
def putE (M:MsgT):Nat:=if mok M=true then perr (ltree (mparts M)) else 4
set_option maxHeartbeats 4000000 in
theorem put10_any (M:MsgT) (w:World) (hK:KindsAt w) (ha:M.Ok w) (hT:Tabs w) (hy:M.cy.size≤60000):
  Calls Tryd.prog 17 #[M.v] w (Puts w .i64 5 (putL M) (putE M)):=by
 have hck:=fun W (h:Below w.heap.size w W)=>check10_any M W (hK.keep h) (ha.keep h) (hT.keep h)
 cases hm:mok M
 case false=>
  have e1:putL M=[]:=by unfold putL;rw [hm];rfl
  have e2:putE M=4:=by unfold putE;rw [hm];rfl
  rw [e1,e2]
  rw [hm] at hck
  clear e1 e2 hm hK ha hT hy
  obtain ⟨k,i,n,br,bb,tr,tb,st,ck,cc,cq,cy,cx,cr,A,m,cap,sq,tg,ver,l⟩:=M
  simp only [MsgT.v] at hck ⊢
  have Hck:=Lib.hid hck
  clear hck
  have X:Blk (w.alloc (.cells #[.int .i64 k,.int .i64 i,.int .i64 n,.int .i64 br,.int .i64 bb,.int .i64 tr,.int .i64 tb,.int .i64 st,.int .i64 ck,.int .i64 cc,.int .i64 cq,.string cy,.string cx,.int .i64 cr,.slice A m cap,.int .i64 sq,.int .i64 tg,.int .i64 ver] 50)) w.heap.size 50 #[.int .i64 k,.int .i64 i,.int .i64 n,.int .i64 br,.int .i64 bb,.int .i64 tr,.int .i64 tb,.int .i64 st,.int .i64 ck,.int .i64 cc,.int .i64 cq,.string cy,.string cx,.int .i64 cr,.slice A m cap,.int .i64 sq,.int .i64 tg,.int .i64 ver]:=Blk.new w _ _
  have kk:Below w.heap.size w (w.alloc (.cells #[.int .i64 k,.int .i64 i,.int .i64 n,.int .i64 br,.int .i64 bb,.int .i64 tr,.int .i64 tb,.int .i64 st,.int .i64 ck,.int .i64 cc,.int .i64 cq,.string cy,.string cx,.int .i64 cr,.slice A m cap,.int .i64 sq,.int .i64 tg,.int .i64 ver] 50)):=below_one _
  have l1:=msg_load X
  clear X
  go_enter Tryd.func17,Tryd.ntmps17
  go_wp2_with (go_at_call 25;(with_reducible refine (Hck.out _ kk).mono ?_);rintro e w1 ⟨rfl,hb1⟩;replace kk:=below_call kk hb1 kk.size;clear hb1)
  refine bodyPost_ret (v:=.tuple #[.slice none 0 0,.int .i64 4]) (by simp [results,Tryd.results17,go_sem, *] <;> rfl) rfl ?_
  exact ⟨_,rfl,OwnB.nil_ _ _ _,kk⟩
 have hz:=mparts_size hm
 have hln:=mok_len hm
 have hit:=fun W (h:Below w.heap.size w W)=>item10_any M W (mok_parts hm).1 (mok_cmd hm) (by rw [ha.l.1];omega) (hK.keep h) (ha.keep h)
 have hfr:∀v W,Holds W (ltree (mparts M)) v→Calls Tryd.prog 10 #[.int .u8 2,v] W (Puts W .i64 5 (if perr (ltree (mparts M))=0 then mframe 2 (pform (ltree (mparts M))) else []) (perr (ltree (mparts M)))):=fun v W h=>frame_any 2 (by decide) (ltree (mparts M)) v W (by omega) h
 have e1:putL M=if perr (ltree (mparts M))=0 then mframe 2 (pform (ltree (mparts M))) else []:=if_pos hm
 have e2:putE M=perr (ltree (mparts M)):=if_pos hm
 rw [←e1,←e2] at hfr
 rw [hm] at hck
 clear hz hln e1 e2 hm hK ha hT hy
 generalize putL M=L at*
 generalize putE M=E at*
 generalize ltree (mparts M)=T at*
 obtain ⟨k,i,n,br,bb,tr,tb,st,ck,cc,cq,cy,cx,cr,A,m,cap,sq,tg,ver,l⟩:=M
 simp only [MsgT.v] at hck hit ⊢
 have Hck:=Lib.hid hck
 have Hit:=Lib.hid hit
 have Hfr:=Lib.hid hfr
 clear hck hit hfr
 have X:Blk (w.alloc (.cells #[.int .i64 k,.int .i64 i,.int .i64 n,.int .i64 br,.int .i64 bb,.int .i64 tr,.int .i64 tb,.int .i64 st,.int .i64 ck,.int .i64 cc,.int .i64 cq,.string cy,.string cx,.int .i64 cr,.slice A m cap,.int .i64 sq,.int .i64 tg,.int .i64 ver] 50)) w.heap.size 50 #[.int .i64 k,.int .i64 i,.int .i64 n,.int .i64 br,.int .i64 bb,.int .i64 tr,.int .i64 tb,.int .i64 st,.int .i64 ck,.int .i64 cc,.int .i64 cq,.string cy,.string cx,.int .i64 cr,.slice A m cap,.int .i64 sq,.int .i64 tg,.int .i64 ver]:=Blk.new w _ _
 have kk:Below w.heap.size w (w.alloc (.cells #[.int .i64 k,.int .i64 i,.int .i64 n,.int .i64 br,.int .i64 bb,.int .i64 tr,.int .i64 tb,.int .i64 st,.int .i64 ck,.int .i64 cc,.int .i64 cq,.string cy,.string cx,.int .i64 cr,.slice A m cap,.int .i64 sq,.int .i64 tg,.int .i64 ver] 50)):=below_one _
 have l1:=msg_load X
 go_enter Tryd.func17,Tryd.ntmps17
 go_wp2_with (first
  |(go_at_call 25;(with_reducible refine (Hck.out _ kk).mono ?_);rintro e w1 ⟨rfl,hb1⟩;replace kk:=below_call kk hb1 kk.size;have l2:=msg_load (X.keep hb1);clear hb1 l1 X)
  |(go_at_call 35;(with_reducible refine (Hit.out _ kk).mono ?_);rintro e w2 ⟨A2,m2,c2,rfl,hin,hb2⟩;replace kk:=below_call kk hb2 kk.size;have hh:=hin.holds;clear hb2 l2 hin)
  |(go_at_call 10;(with_reducible refine (Hfr.out _ _ hh).mono ?_);rintro e w3 ⟨v3,rfl,own3,hb3⟩;have kz:=kk.size;replace kk:=below_call kk hb3 kk.size;clear hb3))
 refine bodyPost_ret (v:=.tuple #[v3,.int .i64 (E:Int)]) (by simp [results,Tryd.results17,go_sem, *] <;> rfl) rfl ?_
 exact ⟨_,rfl,own3.lower kz,kk⟩
end Go.Proofs.YtlolnakeancenaaDoor
namespace Go.Proofs.YtlolnakeancenaaDoor
open Go.RowKit
set_option linter.unusedVariables false
set_option linter.unusedSimpArgs false
set_option maxRecDepth 20000
attribute [local go_sem ↓] Go.wp_at_zero Go.wp_at_succ
attribute [local go_sem] World.cell?_alloc_some frozen_alloc_some
attribute [local go_sem ↓ high] loadVar_msg storeVar_msg msg_store_new
def tkids:Tree→List Tree| .mk _ _ _ l=>l
noncomputable def mtakeT (t:Tree) (e:Nat):MsgT × Nat:=if e≠0 then (mzero 0,e) else if mok (mread (tkids t))=true∧tsame t (ltree (mparts (mread (tkids t))))=true then (mread (tkids t),0) else (mzero 0,4)
noncomputable def mtake (L:List Nat):MsgT × Nat:=mtakeT (mopen 2 L).1 (mopen 2 L).2
/-- A message that was taken, and the error's number. -/
def Takes (w:World) (x:MsgT × Nat) (r:Ending) (w':World):Prop:=
 ∃A c,r= .returned (.tuple #[(x.1.at A x.1.l.length c).v,.int .i64 (x.2:Int)])∧IdsAt w' A x.1.l.length x.1.l∧x.1.l.length≤c∧(∀ad,A=some ad→w.heap.size≤ad.block)∧Below w.heap.size w w'
theorem results_msg2 {fn:Func} {p q:Tmp} {tmps:Array Value} {w:World} {g:Nat} {e:Int} {d0 d1 d2 d3 d4 d5 d6 d7 d8 d9 d10 d11 d12 d13 d14 d15 d16 d17:Value} (h:fn.results=#[.cell p 50,.tmp q]) (hp:tmps.getD p undef= .pointer (some ⟨g,0,none⟩)) (hq:tmps.getD q undef= .int .i64 e)
  (hb:Blk w g 50 #[d0,d1,d2,d3,d4,d5,d6,d7,d8,d9,d10,d11,d12,d13,d14,d15,d16,d17]):(results fn tmps).run Tryd.prog w= .ok (.tuple #[.agg #[d0,d1,d2,d3,d4,d5,d6,d7,d8,d9,d10,d11,d12,d13,d14,d15,d16,d17],.int .i64 e]) w:=by
 have hl:=msg_load hb
 rw [results_cell_tmp h,hp,hq]
 show ((loadMsg ⟨g,0,none⟩).run Tryd.prog w).andThen _=_
 rw [hl]
 rfl
/-- What the walk of msg.Take keeps: the zero message at g2, the item at g4. -/
structure TkM (w:World) (g4:Nat) (t:Tree) (v:Value) (W:World):Prop where
 kk:Below w.heap.size w W
 X:Blk W w.heap.size 50 #[.int .i64 0,.int .i64 0,.int .i64 0,.int .i64 0,.int .i64 0,.int .i64 0,.int .i64 0,.int .i64 0,.int .i64 0,.int .i64 0,.int .i64 0,.string ⟨#[]⟩,.string ⟨#[]⟩,.int .i64 0,.slice none 0 0,.int .i64 0,.int .i64 0,.int .i64 0]
 I:Blk W g4 25 v.cells
 h:Holds W t v
 ne:w.heap.size<g4
theorem TkM.keep {w W w1:World} {g4:Nat} {t:Tree} {v:Value} (S:TkM w g4 t v W) (hb:Below W.heap.size W w1):TkM w g4 t v w1:=
 ⟨below_call S.kk hb S.kk.size,S.X.keep hb,S.I.keep hb,S.h.keep hb,S.ne⟩
set_option maxHeartbeats 8000000 in
theorem take10_any (A:Option Addr) (m cap:Nat) (L:List Nat) (w:World) (hb:Bytes w A m L) (hnc:m≤cap) (hcm:cap≤maxLen) (hK:KindsAt w) (hT:Tabs w):
  Calls Tryd.prog 19 #[.slice A m cap] w (Takes w (mtake L)):=by
 have hop:∀W,Below w.heap.size w W→Calls Tryd.prog 12 #[.int .u8 2,.slice A m cap] W (Opens W (mopen 2 L)):=fun W h=>open_any 2 (by decide) A m cap L W (hb.keep h) hnc hcm
 unfold mtake
 generalize mopen 2 L=x at*
 obtain ⟨t,e⟩:=x
 dsimp only at hop ⊢
 clear hb hnc hcm
 have X0:=Blk.new w 50 #[.int .i64 0,.int .i64 0,.int .i64 0,.int .i64 0,.int .i64 0,.int .i64 0,.int .i64 0,.int .i64 0,.int .i64 0,.int .i64 0,.int .i64 0,.string ⟨#[]⟩,.string ⟨#[]⟩,.int .i64 0,.slice none 0 0,.int .i64 0,.int .i64 0,.int .i64 0]
 have k0:=below_one (w:=w) (.cells #[.int .i64 0,.int .i64 0,.int .i64 0,.int .i64 0,.int .i64 0,.int .i64 0,.int .i64 0,.int .i64 0,.int .i64 0,.int .i64 0,.int .i64 0,.string ⟨#[]⟩,.string ⟨#[]⟩,.int .i64 0,.slice none 0 0,.int .i64 0,.int .i64 0,.int .i64 0] 50)
 have Hop:=Lib.hid hop
 clear hop
 obtain ⟨R0,hR0⟩:∃R0,mtakeT t e=R0:=⟨_,rfl⟩
 rw [hR0]
 unfold mtakeT at hR0
 by_cases he:e=0
 case neg=>
  rw [if_pos he] at hR0
  subst hR0
  have he':((e:Int) != 0)=true:=by simp;omega
  clear hK hT
  go_enter Tryd.func19,Tryd.ntmps19
  go_upto_region 2 with (go_at_call 12;(with_reducible refine (Hop.out _ k0).mono ?_);rintro r w1 ⟨v,rfl,hin,hb1⟩;have X1:=X0.keep hb1;have k1:=below_call k0 hb1 k0.size;obtain ⟨k4,n4,s4,A4,m4,c4,rfl⟩:=hin.form)
  have X2:=X1.alloc (.cells #[.int .i64 k4,.int .u64 n4,.string s4,.slice A4 m4 c4] 25)
  have k2:=k1.alloc k1.size (.cells #[.int .i64 k4,.int .u64 n4,.string s4,.slice A4 m4 c4] 25)
  clear hin hb1 X0 k0 X1 k1 Hop
  revert X2 k2
  generalize World.alloc w1 _=W
  intro X2 k2
  have l2:=msg_store X2 rfl
  go_wp2_with fail
  refine bodyPost_ret (results_msg2 rfl rfl rfl (X2.msgSet rfl)) rfl ?_
  exact ⟨none,0,rfl,IdsAt.nil,Nat.le_refl _,(fun _ h=>by cases h),below_msgSet k2 (Nat.le_refl _) _⟩
 subst he
 rw [if_neg (by simp)] at hR0
 have HK:=Lib.hid hK
 have HT:=Lib.hid hT
 clear hK hT
 have HR0:=Lib.hid hR0
 clear hR0
 obtain ⟨k4,n4,s4,l4⟩:=t
 go_enter Tryd.func19,Tryd.ntmps19
 go_upto_region 2 with (go_at_call 12;(with_reducible refine (Hop.out _ k0).mono ?_);rintro r w1 ⟨v,rfl,hin,hb1⟩;have X1:=X0.keep hb1;have k1:=below_call k0 hb1 k0.size;have z1:=hb1.size;have hh:=hin.holds;obtain ⟨A4,m4,c4,rfl, -, -, -,hm4, -, -, -⟩:=hh.open_;subst hm4)
 have S0:TkM w w1.heap.size (.mk k4 n4 s4 l4) (.agg #[.int .i64 k4,.int .u64 (n4:Int),.string s4,.slice A4 l4.length c4]) (w1.alloc (.cells #[.int .i64 k4,.int .u64 (n4:Int),.string s4,.slice A4 l4.length c4] 25)):=
  ⟨k1.alloc k1.size _,X1.alloc _,Blk.new w1 _ _,hh.keep (below_one _),by simp at z1;omega⟩
 clear hin hb1 X0 k0 X1 k1 Hop hh z1
 revert S0
 generalize World.alloc w1 _=W
 generalize w1.heap.size=g4
 intro S
 have cI:=S.I.cell
 simp only [Value.cells] at cI
 have hrd:=fun (W:World) (kk:Below w.heap.size w W) (h:Items W A4 l4.length c4 l4)=>read10_any A4 c4 l4 W h (HK.out.keep kk) (HT.out.keep kk)
 have hmo:=fun (W w':World) (A:Option Addr) (c:Nat) (h:Items W A4 l4.length c4 l4) (hI:IdsAt w' A (mread l4).l.length (mread l4).l) (hc:(mread l4).l.length≤c)=>mread_ok h hI hc
 have hr0:(if mok (mread l4)=true∧tsame (Tree.mk k4 n4 s4 l4) (ltree (mparts (mread l4)))=true then (mread l4,0) else (mzero 0,4))=R0:=HR0.out
 clear HR0
 obtain ⟨R,hR⟩:∃R,mread l4=R:=⟨_,rfl⟩
 rw [hR] at hrd hr0
 simp only [hR] at hmo
 have HRD:=Lib.hid hrd
 have HMO:=Lib.hid hmo
 have HR0:=Lib.hid hr0
 clear hrd hmo hr0 hR
 go_upto_region 5 with (go_at_call 36;(with_reducible refine (HRD.out _ S.kk S.h.items).mono ?_);rintro e w2 ⟨A6,c6,rfl,hI6,hc6,hA6,hb6⟩;have S2:=S.keep hb6;have hne6:∀ad,A6=some ad→w.heap.size<ad.block:=(fun ad e=>by have h1:=hA6 ad e;have h2:=S.X.lt;omega);clear hA6;have ok6:=HMO.out _ _ _ _ S.h.items hI6 hc6;simp only [MsgT.v,MsgT.at])
 have X6:=Blk.new w2 50 #[.int .i64 R.k,.int .i64 R.i,.int .i64 R.n,.int .i64 R.br,.int .i64 R.bb,.int .i64 R.tr,.int .i64 R.tb,.int .i64 R.st,.int .i64 R.ck,.int .i64 R.cc,.int .i64 R.cq,.string R.cy,.string R.cx,.int .i64 R.cr,.slice A6 R.l.length c6,.int .i64 R.sq,.int .i64 R.tg,.int .i64 R.ver]
 have hba:=below_one (w:=w2) (.cells #[.int .i64 R.k,.int .i64 R.i,.int .i64 R.n,.int .i64 R.br,.int .i64 R.bb,.int .i64 R.tr,.int .i64 R.tb,.int .i64 R.st,.int .i64 R.ck,.int .i64 R.cc,.int .i64 R.cq,.string R.cy,.string R.cx,.int .i64 R.cr,.slice A6 R.l.length c6,.int .i64 R.sq,.int .i64 R.tg,.int .i64 R.ver] 50)
 have n6:=S2.X.lt
 have S3:=S2.keep hba
 replace ok6:=ok6.keep hba
 clear hba S2 S cI hI6 hb6 HRD HMO
 revert X6 S3 ok6 n6
 generalize World.alloc w2 _=W3
 generalize w2.heap.size=g6
 intro X6 n6 S3 ok6
 have hck:=fun W (h:Below W3.heap.size W3 W)=>check10_any (R.at A6 R.l.length c6) W (HK.out.keep (below_call S3.kk h S3.kk.size)) (ok6.keep h) (HT.out.keep (below_call S3.kk h S3.kk.size))
 rw [mok_at] at hck
 simp only [MsgT.v,MsgT.at] at hck
 have kw:=Below.refl W3.heap.size W3
 cases hm:mok R
 case false=>
  rw [hm] at hck
  have Hck:=Lib.hid hck
  have hr0:=HR0.out
  rw [if_neg (by rw [hm];simp)] at hr0
  subst hr0
  clear hck HR0 HK HT ok6 hm
  replace X6:=blk_drewp X6
  replace S3:=S3.keep (Below.refl _ _).drew
  replace kw:=kw.drew
  (refine wp_region_held_drew (S:=(fun wx=>SM g6 #[.int .i64 R.k,.int .i64 R.i,.int .i64 R.n,.int .i64 R.br,.int .i64 R.bb,.int .i64 R.tr,.int .i64 R.tb,.int .i64 R.st,.int .i64 R.ck,.int .i64 R.cc,.int .i64 R.cq,.string R.cy,.string R.cx,.int .i64 R.cr,.slice A6 R.l.length c6,.int .i64 R.sq,.int .i64 R.tg,.int .i64 R.ver] wx∧∀i,wx.cell? ⟨g4,i,none⟩=#[.int .i64 k4,.int .u64 (n4:Int),.string s4,.slice A4 l4.length c4][i]?)) (by kernel_rfl) ?_ (fun hHeld=>?_);(· exact ⟨X6.sm,S3.I.cell⟩))
  revert hHeld X6 S3 kw
  generalize World.drew _=wd
  intro X6 S3 kw hHeld
  (refine take_op (i:=0) (v:=?_) rfl (by kernel_rfl) (by kernel_rfl) (by kernel_rfl) (fun _ _ _ h=>h) (by rfl) ?_ hHeld ?_;rotate_left;(· (intro wS hSw;(try dsimp only at hSw);go_simp;first|done|with_reducible rfl));simp only [Act.put,sta_,scz_,scs_])
  (refine call_op (i:=1) rfl (by kernel_rfl) (by rfl) (fun K hK=>?_);go_simp;(go_at_call 25;(with_reducible refine (Hck.out _ kw).mono ?_);rintro e w3 ⟨rfl,hb⟩;replace S3:=S3.keep hb;replace X6:=X6.keep hb;replace kw:=below_call kw hb kw.size;clear hb);refine hK.out _ _ ⟨X6.sm,S3.I.cell⟩ (fun hHeld2=>?_);clear hK K hHeld;have hHeld:=hHeld2;clear hHeld2;(try simp only [Act.put,sta_,scz_,scs_]))
  (refine take_op (i:=2) (v:=?_) rfl (by kernel_rfl) (by kernel_rfl) (by kernel_rfl) (fun _ _ _ h=>h) (by rfl) ?_ hHeld ?_;rotate_left;(· (intro wS hSw;(try dsimp only at hSw);go_simp;first|done|with_reducible rfl));simp only [Act.put,sta_,scz_,scs_]);(refine take_op (i:=3) (v:=?_) rfl (by kernel_rfl) (by kernel_rfl) (by kernel_rfl) (fun _ _ _ h=>h) (by rfl) ?_ hHeld ?_;rotate_left;(· (intro wS hSw;(try dsimp only at hSw);go_simp;first|done|with_reducible rfl));simp only [Act.put,sta_,scz_,scs_])
  (refine skip_op (i:=4) rfl (by kernel_rfl) (by kernel_rfl) (by kernel_rfl) (fun _ _ _ h=>h) (by rfl) hHeld ?_;simp only [Act.put,sta_,scz_,scs_]);(refine skip_op (i:=5) rfl (by kernel_rfl) (by kernel_rfl) (by kernel_rfl) (fun _ _ _ h=>h) (by rfl) hHeld ?_;simp only [Act.put,sta_,scz_,scs_]);(refine skip_op (i:=6) rfl (by kernel_rfl) (by kernel_rfl) (by kernel_rfl) (fun _ _ _ h=>h) (by rfl) hHeld ?_;simp only [Act.put,sta_,scz_,scs_]);(refine skip_op (i:=7) rfl (by kernel_rfl) (by kernel_rfl) (by kernel_rfl) (fun _ _ _ h=>h) (by rfl) hHeld ?_;simp only [Act.put,sta_,scz_,scs_]);(refine skip_op (i:=8) rfl (by kernel_rfl) (by kernel_rfl) (by kernel_rfl) (fun _ _ _ h=>h) (by rfl) hHeld ?_;simp only [Act.put,sta_,scz_,scs_])
  (refine take_op (i:=9) (v:=?_) rfl (by kernel_rfl) (by kernel_rfl) (by kernel_rfl) (fun _ _ _ h=>h) (by rfl) ?_ hHeld ?_;rotate_left;(· (intro wS hSw;(try dsimp only at hSw);go_simp;first|done|with_reducible rfl));simp only [Act.put,sta_,scz_,scs_])
  (refine wpAnyH_done (by kernel_rfl) ?_ _)
  clear hHeld
  have X2:=S3.X
  have k2:=S3.kk
  have l2:=msg_store X2 rfl
  go_wp2_with fail
  refine bodyPost_ret (results_msg2 rfl rfl rfl (X2.msgSet rfl)) rfl ?_
  exact ⟨none,0,rfl,IdsAt.nil,Nat.le_refl _,(fun _ h=>by cases h),below_msgSet k2 (Nat.le_refl _) _⟩
 rw [hm] at hck
 have hit:=fun W (h:Below W3.heap.size W3 W)=>item10_any (R.at A6 R.l.length c6) W (mok_parts hm).1 (mok_cmd hm) (by have:=mok_len hm;show R.l.length≤1000000;omega) (HK.out.keep (below_call S3.kk h S3.kk.size)) (ok6.keep h)
 rw [mparts_at] at hit
 simp only [MsgT.v,MsgT.at] at hit
 have hsm:=fun W v (h:Holds W (Tree.mk k4 n4 s4 l4) (.agg #[.int .i64 k4,.int .u64 (n4:Int),.string s4,.slice A4 l4.length c4])) (h2:Holds W (ltree (mparts R)) v)=>codecsame_any (Tree.mk k4 n4 s4 l4) (ltree (mparts R)) _ _ W h h2
 have hids:=ok6.l
 have hcl:=ok6.m
 have hr0:=HR0.out
 rw [hm] at hr0
 have Hck:=Lib.hid hck
 have Hit:=Lib.hid hit
 have Hsm:=Lib.hid hsm
 clear hck hit hsm HR0 HK HT ok6
 cases hs:tsame (Tree.mk k4 n4 s4 l4) (ltree (mparts R))
 case false=>
  rw [hs] at Hsm hr0
  rw [if_neg (by simp)] at hr0
  subst hr0
  clear hm hs hids
  replace X6:=blk_drewp X6
  replace S3:=S3.keep (Below.refl _ _).drew
  replace kw:=kw.drew
  (refine wp_region_held_drew (S:=(fun wx=>SM g6 #[.int .i64 R.k,.int .i64 R.i,.int .i64 R.n,.int .i64 R.br,.int .i64 R.bb,.int .i64 R.tr,.int .i64 R.tb,.int .i64 R.st,.int .i64 R.ck,.int .i64 R.cc,.int .i64 R.cq,.string R.cy,.string R.cx,.int .i64 R.cr,.slice A6 R.l.length c6,.int .i64 R.sq,.int .i64 R.tg,.int .i64 R.ver] wx∧∀i,wx.cell? ⟨g4,i,none⟩=#[.int .i64 k4,.int .u64 (n4:Int),.string s4,.slice A4 l4.length c4][i]?)) (by kernel_rfl) ?_ (fun hHeld=>?_);(· exact ⟨X6.sm,S3.I.cell⟩))
  revert hHeld X6 S3 kw
  generalize World.drew _=wd
  intro X6 S3 kw hHeld
  (refine take_op (i:=0) (v:=?_) rfl (by kernel_rfl) (by kernel_rfl) (by kernel_rfl) (fun _ _ _ h=>h) (by rfl) ?_ hHeld ?_;rotate_left;(· (intro wS hSw;(try dsimp only at hSw);go_simp;first|done|with_reducible rfl));simp only [Act.put,sta_,scz_,scs_])
  (refine call_op (i:=1) rfl (by kernel_rfl) (by rfl) (fun K hK=>?_);go_simp;(go_at_call 25;(with_reducible refine (Hck.out _ kw).mono ?_);rintro e w3 ⟨rfl,hb⟩;replace S3:=S3.keep hb;replace X6:=X6.keep hb;replace kw:=below_call kw hb kw.size;clear hb);refine hK.out _ _ ⟨X6.sm,S3.I.cell⟩ (fun hHeld2=>?_);clear hK K hHeld;have hHeld:=hHeld2;clear hHeld2;(try simp only [Act.put,sta_,scz_,scs_]))
  (refine take_op (i:=2) (v:=?_) rfl (by kernel_rfl) (by kernel_rfl) (by kernel_rfl) (fun _ _ _ h=>h) (by rfl) ?_ hHeld ?_;rotate_left;(· (intro wS hSw;(try dsimp only at hSw);go_simp;first|done|with_reducible rfl));simp only [Act.put,sta_,scz_,scs_]);(refine take_op (i:=3) (v:=?_) rfl (by kernel_rfl) (by kernel_rfl) (by kernel_rfl) (fun _ _ _ h=>h) (by rfl) ?_ hHeld ?_;rotate_left;(· (intro wS hSw;(try dsimp only at hSw);go_simp;first|done|with_reducible rfl));simp only [Act.put,sta_,scz_,scs_]);(refine take_op (i:=4) (v:=?_) rfl (by kernel_rfl) (by kernel_rfl) (by kernel_rfl) (fun _ _ _ h=>h) (by rfl) ?_ hHeld ?_;rotate_left;(· (intro wS hSw;(try dsimp only at hSw);go_simp;first|done|with_reducible rfl));simp only [Act.put,sta_,scz_,scs_]);(refine take_op (i:=5) (v:=?_) rfl (by kernel_rfl) (by kernel_rfl) (by kernel_rfl) (fun _ _ _ h=>h) (by rfl) ?_ hHeld ?_;rotate_left;(· (intro wS hSw;(try dsimp only at hSw);go_simp;first|done|with_reducible rfl));simp only [Act.put,sta_,scz_,scs_])
  (refine call_op (i:=6) rfl (by kernel_rfl) (by rfl) (fun K hK=>?_);go_simp;(go_at_call 35;(with_reducible refine (Hit.out _ kw).mono ?_);rintro e w4 ⟨A7,m7,c7,rfl,hin,hb⟩;replace S3:=S3.keep hb;replace X6:=X6.keep hb;replace kw:=below_call kw hb kw.size;have hh7:=hin.holds;clear hin;clear hb);refine hK.out _ _ ⟨X6.sm,S3.I.cell⟩ (fun hHeld2=>?_);clear hK K hHeld;have hHeld:=hHeld2;clear hHeld2;(try simp only [Act.put,sta_,scz_,scs_]))
  (refine call_op (i:=7) rfl (by kernel_rfl) (by rfl) (fun K hK=>?_);go_simp;(go_at_call 15;(with_reducible refine (Hsm.out _ _ S3.h hh7).mono ?_);rintro e w5 ⟨rfl,hb⟩;replace S3:=S3.keep hb;replace X6:=X6.keep hb;replace kw:=below_call kw hb kw.size;clear hb);refine hK.out _ _ ⟨X6.sm,S3.I.cell⟩ (fun hHeld2=>?_);clear hK K hHeld;have hHeld:=hHeld2;clear hHeld2;(try simp only [Act.put,sta_,scz_,scs_]))
  (refine take_op (i:=8) (v:=?_) rfl (by kernel_rfl) (by kernel_rfl) (by kernel_rfl) (fun _ _ _ h=>h) (by rfl) ?_ hHeld ?_;rotate_left;(· (intro wS hSw;(try dsimp only at hSw);go_simp;first|done|with_reducible rfl));simp only [Act.put,sta_,scz_,scs_]);(refine take_op (i:=9) (v:=?_) rfl (by kernel_rfl) (by kernel_rfl) (by kernel_rfl) (fun _ _ _ h=>h) (by rfl) ?_ hHeld ?_;rotate_left;(· (intro wS hSw;(try dsimp only at hSw);go_simp;first|done|with_reducible rfl));simp only [Act.put,sta_,scz_,scs_])
  (refine wpAnyH_done (by kernel_rfl) ?_ _)
  clear hHeld hh7
  have X2:=S3.X
  have k2:=S3.kk
  have l2:=msg_store X2 rfl
  go_wp2_with fail
  refine bodyPost_ret (results_msg2 rfl rfl rfl (X2.msgSet rfl)) rfl ?_
  exact ⟨none,0,rfl,IdsAt.nil,Nat.le_refl _,(fun _ h=>by cases h),below_msgSet k2 (Nat.le_refl _) _⟩
 rw [hs] at Hsm hr0
 rw [if_pos ⟨rfl,rfl⟩] at hr0
 subst hr0
 clear hm hs
 have hidk:∀W,Below W3.heap.size W3 W→IdsAt W A6 R.l.length R.l:=fun W h=>hids.keep h
 have Hid:=Lib.hid hidk
 clear hidk hids
 replace X6:=blk_drewp X6
 replace S3:=S3.keep (Below.refl _ _).drew
 replace kw:=kw.drew
 (refine wp_region_held_drew (S:=(fun wx=>SM g6 #[.int .i64 R.k,.int .i64 R.i,.int .i64 R.n,.int .i64 R.br,.int .i64 R.bb,.int .i64 R.tr,.int .i64 R.tb,.int .i64 R.st,.int .i64 R.ck,.int .i64 R.cc,.int .i64 R.cq,.string R.cy,.string R.cx,.int .i64 R.cr,.slice A6 R.l.length c6,.int .i64 R.sq,.int .i64 R.tg,.int .i64 R.ver] wx∧∀i,wx.cell? ⟨g4,i,none⟩=#[.int .i64 k4,.int .u64 (n4:Int),.string s4,.slice A4 l4.length c4][i]?)) (by kernel_rfl) ?_ (fun hHeld=>?_);(· exact ⟨X6.sm,S3.I.cell⟩))
 revert hHeld X6 S3 kw
 generalize World.drew _=wd
 intro X6 S3 kw hHeld
 (refine take_op (i:=0) (v:=?_) rfl (by kernel_rfl) (by kernel_rfl) (by kernel_rfl) (fun _ _ _ h=>h) (by rfl) ?_ hHeld ?_;rotate_left;(· (intro wS hSw;(try dsimp only at hSw);go_simp;first|done|with_reducible rfl));simp only [Act.put,sta_,scz_,scs_])
 (refine call_op (i:=1) rfl (by kernel_rfl) (by rfl) (fun K hK=>?_);go_simp;(go_at_call 25;(with_reducible refine (Hck.out _ kw).mono ?_);rintro e w3 ⟨rfl,hb⟩;replace S3:=S3.keep hb;replace X6:=X6.keep hb;replace kw:=below_call kw hb kw.size;clear hb);refine hK.out _ _ ⟨X6.sm,S3.I.cell⟩ (fun hHeld2=>?_);clear hK K hHeld;have hHeld:=hHeld2;clear hHeld2;(try simp only [Act.put,sta_,scz_,scs_]))
 (refine take_op (i:=2) (v:=?_) rfl (by kernel_rfl) (by kernel_rfl) (by kernel_rfl) (fun _ _ _ h=>h) (by rfl) ?_ hHeld ?_;rotate_left;(· (intro wS hSw;(try dsimp only at hSw);go_simp;first|done|with_reducible rfl));simp only [Act.put,sta_,scz_,scs_]);(refine take_op (i:=3) (v:=?_) rfl (by kernel_rfl) (by kernel_rfl) (by kernel_rfl) (fun _ _ _ h=>h) (by rfl) ?_ hHeld ?_;rotate_left;(· (intro wS hSw;(try dsimp only at hSw);go_simp;first|done|with_reducible rfl));simp only [Act.put,sta_,scz_,scs_]);(refine take_op (i:=4) (v:=?_) rfl (by kernel_rfl) (by kernel_rfl) (by kernel_rfl) (fun _ _ _ h=>h) (by rfl) ?_ hHeld ?_;rotate_left;(· (intro wS hSw;(try dsimp only at hSw);go_simp;first|done|with_reducible rfl));simp only [Act.put,sta_,scz_,scs_]);(refine take_op (i:=5) (v:=?_) rfl (by kernel_rfl) (by kernel_rfl) (by kernel_rfl) (fun _ _ _ h=>h) (by rfl) ?_ hHeld ?_;rotate_left;(· (intro wS hSw;(try dsimp only at hSw);go_simp;first|done|with_reducible rfl));simp only [Act.put,sta_,scz_,scs_])
 (refine call_op (i:=6) rfl (by kernel_rfl) (by rfl) (fun K hK=>?_);go_simp;(go_at_call 35;(with_reducible refine (Hit.out _ kw).mono ?_);rintro e w4 ⟨A7,m7,c7,rfl,hin,hb⟩;replace S3:=S3.keep hb;replace X6:=X6.keep hb;replace kw:=below_call kw hb kw.size;have hh7:=hin.holds;clear hin;clear hb);refine hK.out _ _ ⟨X6.sm,S3.I.cell⟩ (fun hHeld2=>?_);clear hK K hHeld;have hHeld:=hHeld2;clear hHeld2;(try simp only [Act.put,sta_,scz_,scs_]))
 (refine call_op (i:=7) rfl (by kernel_rfl) (by rfl) (fun K hK=>?_);go_simp;(go_at_call 15;(with_reducible refine (Hsm.out _ _ S3.h hh7).mono ?_);rintro e w5 ⟨rfl,hb⟩;replace S3:=S3.keep hb;replace X6:=X6.keep hb;replace kw:=below_call kw hb kw.size;clear hb);refine hK.out _ _ ⟨X6.sm,S3.I.cell⟩ (fun hHeld2=>?_);clear hK K hHeld;have hHeld:=hHeld2;clear hHeld2;(try simp only [Act.put,sta_,scz_,scs_]))
 (refine take_op (i:=8) (v:=?_) rfl (by kernel_rfl) (by kernel_rfl) (by kernel_rfl) (fun _ _ _ h=>h) (by rfl) ?_ hHeld ?_;rotate_left;(· (intro wS hSw;(try dsimp only at hSw);go_simp;first|done|with_reducible rfl));simp only [Act.put,sta_,scz_,scs_]);(refine take_op (i:=9) (v:=?_) rfl (by kernel_rfl) (by kernel_rfl) (by kernel_rfl) (fun _ _ _ h=>h) (by rfl) ?_ hHeld ?_;rotate_left;(· (intro wS hSw;(try dsimp only at hSw);go_simp;first|done|with_reducible rfl));simp only [Act.put,sta_,scz_,scs_])
 (refine wpAnyH_done (by kernel_rfl) ?_ _)
 clear hHeld hh7
 have X2:=S3.X
 have k2:=S3.kk
 have l1:=msg_load X6
 have l2:=msg_store X2 rfl
 have hI:=Hid.out _ kw
 go_wp2_with fail
 refine bodyPost_ret (results_msg2 rfl rfl rfl (X2.msgSet rfl)) rfl ?_
 exact ⟨A6,c6,rfl,hI.msgSet (fun ad e=>Nat.ne_of_gt (hne6 ad e)) _,hcl,fun ad e=>Nat.le_of_lt (hne6 ad e),below_msgSet k2 (Nat.le_refl _) _⟩
end Go.Proofs.YtlolnakeancenaaDoor
namespace Go.Proofs.YtlolnakeancenaaDoor
open Go.RowKit
set_option linter.unusedVariables false
set_option linter.unusedSimpArgs false
set_option maxRecDepth 20000
attribute [local go_sem ↓] Go.wp_at_zero Go.wp_at_succ
attribute [local go_sem] World.cell?_alloc_some frozen_alloc_some
attribute [local go_sem ↓ high] loadVar_msg storeVar_msg msg_store_new
/-- A greeting. -/
def mhello (v:Int):MsgT:=⟨9,0,0,0,0,0,0,0,0,0,0,⟨#[]⟩,⟨#[]⟩,0,none,0,0,0,0,v,[]⟩
theorem mtake_put {M:MsgT} (h:mok M=true) (hy:M.cy.size≤60000) (hp:perr (ltree (mparts M))=0):mtake (mframe 2 (pform (ltree (mparts M))))=(M.norm,0):=by
 unfold mtake
 rw [mopen_frame (mparts_good h hy) hp]
 rw [if_neg (by decide),if_neg (by decide)]
 unfold mtakeT
 rw [if_neg (by simp)]
 have e:mread (tkids (ltree (mparts M)))=M.norm:=mread_back h
 simp only [e,mok_norm,mparts_norm,h,tsame_self,and_self,if_true]
theorem mperr {M:MsgT} (h:mok M=true) (hy:M.cy.size≤60000):perr (ltree (mparts M))=0:=good_perr (mparts_good h hy) (by have:=mparts_size h;omega)
theorem hello_ok (v:Int) (hv:v=1∨v=2):mok (mhello v)=true:=by
 have e:plainM (mhello v)=mhello v:=rfl
 unfold mok
 rw [e,msame_self]
 rcases hv with rfl|rfl <;> rfl
theorem hello_len (v:Int) (hv:v=1∨v=2):(pform (ltree (mparts (mhello v)))).length=6:=by
 rw [good_pform (mperr (hello_ok v hv) (Nat.zero_le _))]
 rcases hv with rfl|rfl <;> decide
theorem hello_okw (w:World) (v:Int) (hv:v=1∨v=2):(mhello v).Ok w:=by
 have hz:(Lit.int .i64 0).wf=true:=by decide
 exact ⟨(by decide:(Lit.int .i64 9).wf=true),hz,hz,hz,hz,hz,hz,hz,hz,hz,hz,Nat.zero_le _,Nat.zero_le _,hz,Nat.le_refl _,Nat.le_refl _,IdsAt.nil,hz,hz,by rcases hv with rfl|rfl <;> decide⟩
end Go.Proofs.YtlolnakeancenaaDoor
namespace Go.Proofs.YtlolnakeancenaaDoor
open Go.RowKit
set_option linter.unusedVariables false
set_option linter.unusedSimpArgs false
set_option maxRecDepth 20000
attribute [local go_sem ↓] Go.wp_at_zero Go.wp_at_succ
attribute [local go_sem] World.cell?_alloc_some frozen_alloc_some
/-- A message's parts with the old form of what it hangs on. -/
def oldP (M:MsgT):List Tree:=if kAt M.k M.st=true then (mparts M).dropLast++ [otree M.l M.sq] else mparts M
def downE (M:MsgT):Nat:=if putE M≠0 then putE M else if M.ck=6∨(kAt M.k M.st=true∧M.tg≠1) then 17 else 0
def downL (M:MsgT):List Nat:=if downE M=0 then mframe 1 (pform (ltree (oldP M))) else []
theorem putE_mok {M:MsgT} (h:putE M=0):mok M=true:=by
 unfold putE at h
 split at h
 ·next h1=>exact h1
 ·cases h
theorem downE_ok {M:MsgT} (h:downE M=0):putE M=0∧mok M=true∧M.ck≠6∧(kAt M.k M.st=true→M.tg=1):=by
 unfold downE at h
 by_cases h1:putE M=0
 ·rw [if_neg (by simp [h1])] at h
  split at h
  ·cases h
  ·next h2=>
   refine ⟨h1,putE_mok h1,fun h3=>h2 (.inl h3),fun h3=>?_⟩
   exact Decidable.byContradiction fun h4=>h2 (.inr ⟨h3,h4⟩)
 ·rw [if_pos h1] at h
  exact absurd h h1
/-- What hangs on is the last part. -/
theorem mparts_hang {M:MsgT} (h:mok M=true) (hk:kAt M.k M.st=true):∃X,mparts M=X++ [atree M.l M.sq M.tg]:=by
 have hfl:=flags_of (st:=M.st) (mok_parts h).1
 have h5:kVer M.k=false:=by
  rcases hfl with ⟨-, -, -, -, -,h5⟩|⟨-, -, -, -, -,h5⟩|⟨-, -, -, -,h4, -⟩|⟨-, -, -, -, -,h5⟩|⟨-, -, -, -, -,h5⟩|⟨-, -, -, -,h4, -⟩|⟨-, -, -, -,h4, -⟩
  all_goals first|exact h5|(rw [hk] at h4;cases h4)
 unfold mparts mpartsF
 rw [hk,h5]
 simp only [if_true,Bool.false_eq_true,if_false,List.append_nil]
 exact ⟨_,rfl⟩
theorem otake_ntree (v:Int):otake (ntree v)=none:=otake_none (by simp)
theorem itake_ntree (v:Int):itake (ntree v)=none:=by
 unfold itake ntree
 dsimp only
 rw [if_neg]
 rintro ⟨h, -⟩
 simp [tkHead] at h
theorem otake_btree (a b:Int):otake (btree a b)=none:=by
 show aTk (itake (ntree b)).isSome ((itake (ntree b)).getD []) (clamp (tN (ntree a))) 1 (btree a b) (otree ((itake (ntree b)).getD []) (clamp (tN (ntree a))))=none
 rw [itake_ntree]
 unfold aTk
 rw [if_neg]
 simp
/-- A message that hangs on nothing ends in a part that is no old form. -/
theorem mparts_free {M:MsgT} (h:mok M=true) (hk:kAt M.k M.st=false):∃X u,mparts M=X++ [u]∧otake u=none:=by
 have hfl:=flags_of (st:=M.st) (mok_parts h).1
 unfold mparts mpartsF
 rcases hfl with ⟨-, -, -, -,h4, -⟩|⟨-, -, -, -,h4, -⟩|⟨h0,h1,h2,h3,h4,h5⟩|⟨-, -, -, -,h4, -⟩|⟨-, -, -, -,h4, -⟩|⟨h0,h1,h2,h3,h4,h5⟩|⟨h0,h1,h2,h3,h4,h5⟩
 ·rw [hk] at h4;cases h4
 ·rw [hk] at h4;cases h4
 ·rw [h0,h1,h2,h3,h4,h5]
  exact ⟨[ntree M.k]++ [ntree M.i,ntree M.n],btree M.br M.bb,by simp,otake_btree _ _⟩
 ·rw [hk] at h4;cases h4
 ·rw [hk] at h4;cases h4
 ·rw [h0,h1,h2,h3,h4,h5]
  refine ⟨[ntree M.k]++ [ntree M.i,ntree M.n]++ [btree M.br M.bb]++ [ntree M.st],btree M.tr M.tb,by simp,otake_btree _ _⟩
 ·rw [h0,h1,h2,h3,h4,h5]
  exact ⟨[ntree M.k],ntree M.ver,by simp,otake_ntree _⟩
theorem otree_good {l:List IdP} (hl:l.length≤4096) (q:Int) {d:Nat} (hd:d<14):TG (otree l q) d:=by
 refine ltree_good (fun t ht=>?_) (by simp) (by omega)
 simp only [List.mem_cons,List.not_mem_nil,or_false] at ht
 rcases ht with rfl|rfl
 ·exact ntree_good _ (by omega)
 ·refine ltree_good (fun t ht=>?_) (by rw [itrees,List.length_map,inums_length];omega) (by omega)
  obtain ⟨a,_,rfl⟩:=List.mem_map.1 ht
  exact ntree_good _ (by omega)
theorem otree_size {l:List IdP} (hl:l.length≤4096) (q:Int):tsize (otree l q)≤8200:=by
 have e0:ByteArray.empty.size=0:=rfl
 simp only [tsize,tsizes,otree,ltree,ntree,e0,itrees]
 have e:=tsizes_num (inums l)
 rw [inums_length] at e
 have e':tsizes ((inums l).map fun a=>Tree.mk 0 (u64n a) ByteArray.empty [])=2*l.length:=e
 first|(rw [e];omega)|(rw [e'];omega)
theorem mem_of_ltree {l:List Tree} {d:Nat} (h:TG (ltree l) d) {t:Tree} (ht:t∈l):TG t (d+1):=by
 obtain ⟨h1,h2⟩:=h
 refine ⟨?_,h2.out.2.2.2 t ht⟩
 have h3:check (.mk 2 0 ByteArray.empty l) d=0:=h1
 rw [check] at h3
 split at h3
 ·cases h3
 ·split at h3
  ·cases h3
  ·exact checks_zero.1 h3 t ht
theorem oldP_good {M:MsgT} (h:mok M=true) (hy:M.cy.size≤60000):TG (ltree (oldP M)) 0∧tsize (ltree (oldP M))≤100000:=by
 have hg:=mparts_good h hy
 have hs:=mparts_size h
 unfold oldP
 split
 ·have hl:=mok_len h
  have hs2:tsizes (mparts M)≤12000+M.cy.size:=by
   have:tsize (ltree (mparts M))=1+0+tsizes (mparts M):=rfl
   omega
  have hd:tsizes (mparts M).dropLast≤tsizes (mparts M):=by
   rw [List.dropLast_eq_take];exact tsizes_le_take _ _
  have hlen:=tsizes_len (mparts M).dropLast
  refine ⟨ltree_good (fun t ht=>?_) (by simp only [List.length_append,List.length_cons,List.length_nil];omega) (by decide),?_⟩
  ·rcases List.mem_append.1 ht with ht|ht
   ·exact mem_of_ltree hg (List.dropLast_subset _ ht)
   ·rw [List.mem_singleton.1 ht]
    exact otree_good hl _ (by decide)
  ·have e:tsize (ltree ((mparts M).dropLast++ [otree M.l M.sq]))=1+0+tsizes ((mparts M).dropLast++ [otree M.l M.sq]):=rfl
   rw [e,tsizes_append]
   have h1:=otree_size hl M.sq
   simp only [tsizes]
   omega
 ·exact ⟨hg,by omega⟩
theorem old_perr {M:MsgT} (h:mok M=true) (hy:M.cy.size≤60000):perr (ltree (oldP M))=0:=good_perr (oldP_good h hy).1 (oldP_good h hy).2
attribute [local go_sem ↓ high] loadVar_msg storeVar_msg msg_store_new
set_option maxHeartbeats 4000000 in
theorem up_err (A:Option Addr) (n cap:Nat) (L:List Nat) (w:World) (hb:Bytes w A n L) (hnc:n≤cap) (hcm:cap≤maxLen) (he:(mopen 1 L).2≠0):
  Calls Tryd.prog 24 #[.slice A n cap] w (Takes w (mzero 0,(mopen 1 L).2)):=by
 have hop:∀W,Below w.heap.size w W→Calls Tryd.prog 12 #[.int .u8 1,.slice A n cap] W (Opens W (mopen 1 L)):=fun W h=>open_any 1 (by decide) A n cap L W (hb.keep h) hnc hcm
 generalize mopen 1 L=x at*
 obtain ⟨t,e⟩:=x
 dsimp only at hop he ⊢
 clear hb hnc hcm
 have X0:=Blk.new w 50 #[.int .i64 0,.int .i64 0,.int .i64 0,.int .i64 0,.int .i64 0,.int .i64 0,.int .i64 0,.int .i64 0,.int .i64 0,.int .i64 0,.int .i64 0,.string ⟨#[]⟩,.string ⟨#[]⟩,.int .i64 0,.slice none 0 0,.int .i64 0,.int .i64 0,.int .i64 0]
 have k0:=below_one (w:=w) (.cells #[.int .i64 0,.int .i64 0,.int .i64 0,.int .i64 0,.int .i64 0,.int .i64 0,.int .i64 0,.int .i64 0,.int .i64 0,.int .i64 0,.int .i64 0,.string ⟨#[]⟩,.string ⟨#[]⟩,.int .i64 0,.slice none 0 0,.int .i64 0,.int .i64 0,.int .i64 0] 50)
 have Hop:=Lib.hid hop
 clear hop
 have he':((e:Int) != 0)=true:=by simp;omega
 go_enter Tryd.func24,Tryd.ntmps24
 go_upto_region 2 with (go_at_call 12;(with_reducible refine (Hop.out _ k0).mono ?_);rintro r w1 ⟨v,rfl,hin,hb1⟩;have X1:=X0.keep hb1;have k1:=below_call k0 hb1 k0.size;obtain ⟨k4,n4,s4,A4,m4,c4,rfl⟩:=hin.form)
 have X2:=X1.alloc (.cells #[.int .i64 k4,.int .u64 n4,.string s4,.slice A4 m4 c4] 25)
 have k2:=k1.alloc k1.size (.cells #[.int .i64 k4,.int .u64 n4,.string s4,.slice A4 m4 c4] 25)
 clear hin hb1 X0 k0 X1 k1 Hop
 revert X2 k2
 generalize World.alloc w1 _=W
 intro X2 k2
 have l2:=msg_store X2 rfl
 go_wp2_with fail
 refine bodyPost_ret (results_msg2 rfl rfl rfl (X2.msgSet rfl)) rfl ?_
 exact ⟨none,0,rfl,IdsAt.nil,Nat.le_refl _,(fun _ h=>by cases h),below_msgSet k2 (Nat.le_refl _) _⟩
/-- What the walk of Up keeps: the zero message, the item. -/
structure UpS (w:World) (g4:Nat) (CY:Array Value) (t:Tree) (v:Value) (W:World):Prop where
 kk:Below w.heap.size w W
 X:Blk W w.heap.size 50 #[.int .i64 0,.int .i64 0,.int .i64 0,.int .i64 0,.int .i64 0,.int .i64 0,.int .i64 0,.int .i64 0,.int .i64 0,.int .i64 0,.int .i64 0,.string ⟨#[]⟩,.string ⟨#[]⟩,.int .i64 0,.slice none 0 0,.int .i64 0,.int .i64 0,.int .i64 0]
 Y:Blk W g4 25 CY
 h:HoldsIn W (fun b=>b<g4) t v
 ne:w.heap.size<g4
theorem UpS.keep {w W w1:World} {g4:Nat} {CY:Array Value} {t:Tree} {v:Value} (S:UpS w g4 CY t v W) (hb:Below W.heap.size W w1):UpS w g4 CY t v w1:=
 ⟨below_call S.kk hb S.kk.size,S.X.keep hb,S.Y.keep hb,S.h.under hb,S.ne⟩
theorem UpS.set {w W:World} {g4 g8 o:Nat} {CY:Array Value} {t:Tree} {v:Value} (S:UpS w g4 CY t v W) (hg:g4<g8) (x:Value):UpS w g4 CY t v (W.setCell ⟨g8,o,none⟩ x):=
 ⟨S.kk.setCell (p:=⟨g8,o,none⟩) (by have:=S.ne;simp;omega) x,S.X.far (p:=⟨g8,o,none⟩) (by have:=S.ne;simp;omega) x,S.Y.far (p:=⟨g8,o,none⟩) (by simp;omega) x,S.h.set (p:=⟨g8,o,none⟩) (by simp;omega) x,S.ne⟩
set_option maxHeartbeats 16000000 in
theorem up_good (M:MsgT) (A0:Option Addr) (n0 cap0:Nat) (w:World) (hm:mok M=true) (hd:downE M=0) (hy:M.cy.size≤60000) (hb:Bytes w A0 n0 (mframe 1 (pform (ltree (oldP M))))) (hnc:n0≤cap0) (hcm:cap0≤maxLen) (hK:KindsAt w) (hT:Tabs w):
  Calls Tryd.prog 24 #[.slice A0 n0 cap0] w (Takes w (M.norm,0)):=by
 obtain ⟨-, -,hc6,ht1⟩:=downE_ok hd
 have hop:∀W,Below w.heap.size w W→Calls Tryd.prog 12 #[.int .u8 1,.slice A0 n0 cap0] W (Opens W (ltree (oldP M),0)):=fun W h=>by
  have:=open_any 1 (by decide) A0 n0 cap0 _ W (hb.keep h) hnc hcm
  rw [mopen_frame (oldP_good hm hy).1 (old_perr hm hy),if_neg (by decide),if_neg (by decide)] at this
  exact this
 have hpE:=mperr hm hy
 have hfr:∀v W,Holds W (ltree (mparts M)) v→Calls Tryd.prog 10 #[.int .u8 2,v] W (Puts W .i64 5 (mframe 2 (pform (ltree (mparts M)))) 0):=fun v W h=>by
  have:=frame_any 2 (by decide) (ltree (mparts M)) v W (by have:=mparts_size hm;omega) h
  rw [hpE,if_pos rfl] at this
  exact this
 have htk:∀W A n c,Below w.heap.size w W→Bytes W A n (mframe 2 (pform (ltree (mparts M))))→n≤c→c≤maxLen→Calls Tryd.prog 19 #[.slice A n c] W (Takes W (M.norm,0)):=fun W A n c h hb hn hc=>by
  have:=take10_any A n c _ W hb hn hc (hK.keep h) (hT.keep h)
  rw [mtake_put hm hy hpE] at this
  exact this
 have hlen:(mparts M).length≤100000000:=by
  have h1:=mparts_size hm
  have h2:=tsizes_len (mparts M)
  have h3:tsize (ltree (mparts M))=1+0+tsizes (mparts M):=rfl
  omega
 have hla:kAt M.k M.st=true→∀W v S0,HoldsIn W S0 (ltree (oldP M)) v→Calls Tryd.prog 39 #[v,.func (.func 41) #[] #[]] W (Lasts W S0 (ltree (mparts M),true)):=fun hk W v S0 hv=>by
  obtain ⟨Y,hYe⟩:=mparts_hang hm hk
  have ho:oldP M=Y++ [otree M.l M.sq]:=by unfold oldP;rw [if_pos hk,hYe,List.dropLast_concat]
  have hck:=mok_attr hm hk
  have e:M.p=⟨M.l,M.sq,M.tg⟩:=rfl
  rw [e,ht1 hk] at hck
  have hot:=otake_item hck
  have:=last_up 2 0 ByteArray.empty (oldP M) v W Y.length (otree M.l M.sq) (atree M.l M.sq 1) true (by rw [ho];simp) (by rw [hYe] at hlen;simp at hlen;omega) (by rw [ho];simp) S0 hv (fun W2 y hb h=>by
   have h2:=up_any (otree M.l M.sq) y W2 h
   rw [hot] at h2
   exact h2)
  rw [ho,List.dropLast_concat] at this
  rw [hYe,ht1 hk]
  exact this
 have hlf:kAt M.k M.st=false→∃TX,tsize (ltree TX)≤10000000∧∀W v S0,HoldsIn W S0 (ltree (oldP M)) v→Calls Tryd.prog 39 #[v,.func (.func 41) #[] #[]] W (Lasts W S0 (ltree TX,false)):=fun hk=>by
  obtain ⟨Y,u,hYe,hu⟩:=mparts_free hm hk
  have ho:oldP M=Y++ [u]:=by unfold oldP;rw [if_neg (by rw [hk];decide),hYe]
  refine ⟨Y++ [atree [] 0 0],?_,fun W v S0 hv=>?_⟩
  ·have h1:=mparts_size hm
   have h3:tsize (ltree (mparts M))=1+0+tsizes (mparts M):=rfl
   have h4:tsize (ltree (Y++ [atree [] 0 0]))=1+0+tsizes (Y++ [atree [] 0 0]):=rfl
   have h5:tsizes [atree [] 0 0]≤10:=by decide
   rw [hYe] at h1
   rw [hYe,tsizes_append] at h3
   rw [h4,tsizes_append]
   omega
  ·have:=last_up 2 0 ByteArray.empty (oldP M) v W Y.length u (atree [] 0 0) false (by rw [ho];simp) (by rw [hYe] at hlen;simp at hlen;omega) (by rw [ho];simp) S0 hv (fun W2 y hb h=>by
    have h2:=up_any u y W2 h
    rw [hu] at h2
    exact h2)
   rw [ho,List.dropLast_concat] at this
   exact this
 have hno:kAt M.k M.st=false→oldP M=mparts M:=fun hk=>by unfold oldP;rw [if_neg (by rw [hk];decide)]
 have hhg:=fun A c W=>hangs_any (M.at A M.l.length c) W
 have ehg:∀A c,hangsM (M.at A M.l.length c).k (M.at A M.l.length c).st=kAt M.k M.st:=fun A c=>hangs_kAt _ _
 simp only [ehg] at hhg
 clear hb hnc hcm hK hT hy hm hd hpE hlen ehg ht1
 generalize mframe 2 (pform (ltree (mparts M)))=LN at*
 generalize hTO:ltree (oldP M)=TO at*
 generalize hTN:ltree (mparts M)=TN at*
 have hno2:kAt M.k M.st=false→TO=TN:=fun h=>by rw [←hTO,←hTN,hno h]
 clear hno hTO hTN
 obtain ⟨k,i,n,br,bb,tr,tb,st,ck,cc,cq,cy,cx,cr,A,m,cap,sq,tg,ver,l⟩:=M
 have htk2:∀W Az nz cz,Below w.heap.size w W→Bytes W Az nz LN→nz≤cz→cz≤maxLen→Calls Tryd.prog 19 #[.slice Az nz cz] W (fun e w'=>∃A2 c2,e= .returned (.tuple #[.agg #[.int .i64 k,.int .i64 i,.int .i64 n,.int .i64 br,.int .i64 bb,.int .i64 tr,.int .i64 tb,.int .i64 st,.int .i64 ck,.int .i64 cc,.int .i64 cq,.string cy,.string cx,.int .i64 cr,.slice A2 l.length c2,.int .i64 sq,.int .i64 tg,.int .i64 ver],.int .i64 0])∧IdsAt w' A2 l.length l∧l.length≤c2∧(∀ad,A2=some ad→W.heap.size≤ad.block)∧Below W.heap.size W w'):=fun W Az nz cz h hb hn hc=>(htk W Az nz cz h hb hn hc).mono fun e w' ⟨A2,c2,h1,h2,h3,h4,h5⟩=>⟨A2,c2,h1,h2,h3,h4,h5⟩
 simp only [MsgT.v,MsgT.at] at hhg hc6 hla hlf hno2
 generalize kAt k st=ka at*
 have hc6':(ck != 6)=true:=by simp [hc6]
 have Hop:=Lib.hid hop
 have Hfr:=Lib.hid hfr
 have Htk:=Lib.hid htk2
 have Hhg:=Lib.hid hhg
 clear hop hfr htk htk2 hhg hc6
 have X0:=Blk.new w 50 #[.int .i64 0,.int .i64 0,.int .i64 0,.int .i64 0,.int .i64 0,.int .i64 0,.int .i64 0,.int .i64 0,.int .i64 0,.int .i64 0,.int .i64 0,.string ⟨#[]⟩,.string ⟨#[]⟩,.int .i64 0,.slice none 0 0,.int .i64 0,.int .i64 0,.int .i64 0]
 have k0:=below_one (w:=w) (.cells #[.int .i64 0,.int .i64 0,.int .i64 0,.int .i64 0,.int .i64 0,.int .i64 0,.int .i64 0,.int .i64 0,.int .i64 0,.int .i64 0,.int .i64 0,.string ⟨#[]⟩,.string ⟨#[]⟩,.int .i64 0,.slice none 0 0,.int .i64 0,.int .i64 0,.int .i64 0] 50)
 cases ka
 case true=>
  have hla2:=hla (by first|trivial|rfl)
  have Hla:=Lib.hid hla2
  clear hla hla2 hlf hno2
  go_enter Tryd.func24,Tryd.ntmps24
  go_upto_region 4 with (go_at_call 12;(with_reducible refine (Hop.out _ k0).mono ?_);rintro r w1 ⟨v,rfl,hin,hb⟩;have X1:=X0.keep hb;have k1:=below_call k0 hb k0.size;obtain ⟨k4,n4,s4,A4,m4,c4,rfl⟩:=hin.form)
  have hba:=below_one (w:=w1) (.cells #[.int .i64 k4,.int .u64 n4,.string s4,.slice A4 m4 c4] 25)
  have S:UpS w w1.heap.size #[.int .i64 k4,.int .u64 n4,.string s4,.slice A4 m4 c4] TO (.agg #[.int .i64 k4,.int .u64 n4,.string s4,.slice A4 m4 c4]) (w1.alloc (.cells #[.int .i64 k4,.int .u64 n4,.string s4,.slice A4 m4 c4] 25)):=⟨below_call k1 hba k1.size,X1.keep hba,Blk.new w1 _ _,((hin.there).mono (fun b h=>h.2)).under hba,X1.lt⟩
  clear hin hb hba X0 k0 X1 k1 Hop
  revert S
  generalize World.alloc w1 _=W
  generalize w1.heap.size=g4
  intro S
  have Yc:=S.Y.cell
  have hba:=below_one (w:=W) (.cells #[.bool true,.bool false] 4)
  have B:Blk (W.alloc (.cells #[.bool true,.bool false] 4)) W.heap.size 4 #[.bool true,.bool false]:=Blk.new W _ _
  replace S:=S.keep hba
  clear hba Yc
  go_wp2_with fail
  revert S
  revert B
  generalize World.alloc W _=W2
  generalize W.heap.size=gb
  intro B S
  have Bc:=B.cell
  have Yc:=S.Y.cell
  refine wp_loop_rounds 3 ?_
  rw [rounds_succ]
  go_upto_region 8 with fail
  have hba:=below_one (w:=W2) (.cells #[.int .i64 k4,.int .u64 n4,.string s4,.slice A4 m4 c4] 25)
  have n8:=S.Y.lt
  have nb:=B.lt
  have Y8:=Blk.new W2 25 #[.int .i64 k4,.int .u64 n4,.string s4,.slice A4 m4 c4]
  replace S:=S.keep hba
  replace B:=B.keep hba
  clear hba Bc Yc
  revert S
  revert B
  revert Y8
  revert nb
  revert n8
  generalize World.alloc W2 _=W3
  generalize W2.heap.size=g8
  intro n8 nb Y8 B S
  have Yc:=S.Y.cell
  have Y8c:=Y8.cell
  go_upto_region 10 with (go_at_call 39;(with_reducible refine (Hla.out _ _ _ S.h).mono ?_);rintro e w5 ⟨y5,rfl,hin5,hb⟩;obtain ⟨k7,n7,s7,A7,m7,c7,rfl⟩:=hin5.form;have y8l:=Y8.lt;replace S:=S.keep hb;replace B:=B.keep hb;replace Y8:=Y8.keep hb;clear Yc Y8c;have Y8c:=Y8.cell;have Y8f:=Y8.frozen)
  have Y9:=Y8.set4 (.int .i64 k7) (.int .u64 n7) (.string s7) (.slice A7 m7 c7)
  have h9:=(hin_set4 hin5 (g:=g8) (fun h=>by omega) (.int .i64 k7) (.int .u64 n7) (.string s7) (.slice A7 m7 c7)).holds
  have S9:=(((S.set (o:=0) n8 (.int .i64 k7)).set (o:=1) n8 (.int .u64 n7)).set (o:=2) n8 (.string s7)).set (o:=3) n8 (.slice A7 m7 c7)
  have B9:=B.far4 (g:=g8) (Nat.ne_of_lt nb) (.int .i64 k7) (.int .u64 n7) (.string s7) (.slice A7 m7 c7)
  clear Y8 Y8c Y8f hin5 S B hb y8l
  revert S9
  revert B9
  revert h9
  revert Y9
  generalize World.setCell _ _ _=W9
  intro Y9 h9 B S
  have Yc:=Y9.cell
  go_upto_region 13 with (first|(go_at_call 10;(with_reducible refine (Hfr.out _ _ h9).mono ?_);rintro e w6 ⟨v6,rfl,own6,hb⟩;obtain ⟨A6,c6,rfl,hc6l,hc6m⟩:=own6.form;have by6:=own6.bytes.2.2;replace S:=S.keep hb;clear own6)|(go_at_call 19;(with_reducible refine (Htk.out _ _ _ _ S.kk by6 hc6l hc6m).mono ?_);rintro e w7 ⟨A2,c2,rfl,hI,hcl,hA,hb7⟩;have xl:=S.X.lt;replace S:=S.keep hb7))
  have hba:=below_one (w:=w7) (.cells #[.int .i64 k,.int .i64 i,.int .i64 n,.int .i64 br,.int .i64 bb,.int .i64 tr,.int .i64 tb,.int .i64 st,.int .i64 ck,.int .i64 cc,.int .i64 cq,.string cy,.string cx,.int .i64 cr,.slice A2 l.length c2,.int .i64 sq,.int .i64 tg,.int .i64 ver] 50)
  have M12:=Blk.new w7 50 #[.int .i64 k,.int .i64 i,.int .i64 n,.int .i64 br,.int .i64 bb,.int .i64 tr,.int .i64 tb,.int .i64 st,.int .i64 ck,.int .i64 cc,.int .i64 cq,.string cy,.string cx,.int .i64 cr,.slice A2 l.length c2,.int .i64 sq,.int .i64 tg,.int .i64 ver]
  replace S:=S.keep hba
  have hI2:=IdsAt.keep hI hba
  have hne:∀ad,A2=some ad→w.heap.size<ad.block:=fun ad e=>Nat.lt_of_lt_of_le xl (hA ad e)
  clear hba hI hA hb7 hb by6 Yc
  revert hI2
  revert S
  revert M12
  generalize World.alloc w7 _=W12
  generalize w7.heap.size=g12
  intro M12 S hI2
  have l1:=msg_load M12
  have hI3:=Lib.hid hI2
  clear hI2
  go_wp2_with (go_at_call 38;(with_reducible refine (Hhg.out A2 c2 _).mono ?_);rintro e w8 ⟨rfl,hb⟩;replace S:=S.keep hb;replace M12:=M12.keep hb;have hI4:=hI3.out.keep hb;have l3:=msg_load M12;have Mc:=M12.cell;have l2:=msg_store S.X rfl)
  refine bodyPost_ret (results_msg2 rfl rfl rfl (S.X.msgSet rfl)) rfl ?_
  exact ⟨A2,c2,rfl,hI4.msgSet (fun ad e=>Nat.ne_of_gt (hne ad e)) _,hcl,fun ad e=>Nat.le_of_lt (hne ad e),below_msgSet S.kk (Nat.le_refl _) _⟩
 case false=>
  obtain ⟨TX,hTX,hlf2⟩:=hlf (by first|trivial|rfl)
  have hno3:=hno2 (by first|trivial|rfl)
  subst hno3
  have hfx:=fun v W (h:Holds W (ltree TX) v)=>frame_any 2 (by decide) (ltree TX) v W hTX h
  have hfx2:∀v W,Holds W (ltree TX) v→Calls Tryd.prog 10 #[.int .u8 2,v] W (Puts W .i64 5 (if perr (ltree TX)=0 then mframe 2 (pform (ltree TX)) else []) (perr (ltree TX))):=hfx
  clear hfx hTX hla hno2 hlf
  generalize (if perr (ltree TX)=0 then mframe 2 (pform (ltree TX)) else [])=LX at*
  generalize perr (ltree TX)=EX at*
  generalize ltree TX=TTX at*
  have Hla:=Lib.hid hlf2
  have Hfx:=Lib.hid hfx2
  clear hlf2 hfx2
  go_enter Tryd.func24,Tryd.ntmps24
  go_upto_region 4 with (go_at_call 12;(with_reducible refine (Hop.out _ k0).mono ?_);rintro r w1 ⟨v,rfl,hin,hb⟩;have X1:=X0.keep hb;have k1:=below_call k0 hb k0.size;obtain ⟨k4,n4,s4,A4,m4,c4,rfl⟩:=hin.form)
  have hba:=below_one (w:=w1) (.cells #[.int .i64 k4,.int .u64 n4,.string s4,.slice A4 m4 c4] 25)
  have S:UpS w w1.heap.size #[.int .i64 k4,.int .u64 n4,.string s4,.slice A4 m4 c4] TO (.agg #[.int .i64 k4,.int .u64 n4,.string s4,.slice A4 m4 c4]) (w1.alloc (.cells #[.int .i64 k4,.int .u64 n4,.string s4,.slice A4 m4 c4] 25)):=⟨below_call k1 hba k1.size,X1.keep hba,Blk.new w1 _ _,((hin.there).mono (fun b h=>h.2)).under hba,X1.lt⟩
  clear hin hb hba X0 k0 X1 k1 Hop
  revert S
  generalize World.alloc w1 _=W
  generalize w1.heap.size=g4
  intro S
  have Yc:=S.Y.cell
  have hba:=below_one (w:=W) (.cells #[.bool true,.bool false] 4)
  have B:Blk (W.alloc (.cells #[.bool true,.bool false] 4)) W.heap.size 4 #[.bool true,.bool false]:=Blk.new W _ _
  replace S:=S.keep hba
  clear hba Yc
  go_wp2_with fail
  revert S
  revert B
  generalize World.alloc W _=W2
  generalize W.heap.size=gb
  intro B S
  have Bc:=B.cell
  have Yc:=S.Y.cell
  refine wp_loop_rounds 3 ?_
  rw [rounds_succ]
  go_upto_region 8 with fail
  have hba:=below_one (w:=W2) (.cells #[.int .i64 k4,.int .u64 n4,.string s4,.slice A4 m4 c4] 25)
  have n8:=S.Y.lt
  have nb:=B.lt
  have Y8:=Blk.new W2 25 #[.int .i64 k4,.int .u64 n4,.string s4,.slice A4 m4 c4]
  replace S:=S.keep hba
  replace B:=B.keep hba
  clear hba Bc Yc
  revert S
  revert B
  revert Y8
  revert nb
  revert n8
  generalize World.alloc W2 _=W3
  generalize W2.heap.size=g8
  intro n8 nb Y8 B S
  have Yc:=S.Y.cell
  have Y8c:=Y8.cell
  go_upto_region 10 with (go_at_call 39;(with_reducible refine (Hla.out _ _ _ S.h).mono ?_);rintro e w5 ⟨y5,rfl,hin5,hb⟩;obtain ⟨k7,n7,s7,A7,m7,c7,rfl⟩:=hin5.form;have y8l:=Y8.lt;replace S:=S.keep hb;replace B:=B.keep hb;replace Y8:=Y8.keep hb;clear Yc Y8c;have Y8c:=Y8.cell;have Y8f:=Y8.frozen)
  have Y9:=Y8.set4 (.int .i64 k7) (.int .u64 n7) (.string s7) (.slice A7 m7 c7)
  have h9:=(hin_set4 hin5 (g:=g8) (fun h=>by omega) (.int .i64 k7) (.int .u64 n7) (.string s7) (.slice A7 m7 c7)).holds
  have S9:=(((S.set (o:=0) n8 (.int .i64 k7)).set (o:=1) n8 (.int .u64 n7)).set (o:=2) n8 (.string s7)).set (o:=3) n8 (.slice A7 m7 c7)
  have B9:=B.far4 (g:=g8) (Nat.ne_of_lt nb) (.int .i64 k7) (.int .u64 n7) (.string s7) (.slice A7 m7 c7)
  clear Y8 Y8c Y8f hin5 S B hb y8l
  revert S9
  revert B9
  revert h9
  revert Y9
  generalize World.setCell _ _ _=W9
  intro Y9 h9 B S
  have Yc:=Y9.cell
  go_wp2_with (go_at_call 10;(with_reducible refine (Hfx.out _ _ h9).mono ?_);rintro e w6 ⟨v6,rfl,own6,hb⟩;obtain ⟨A6,c6,rfl,hc6l,hc6m⟩:=own6.form;replace S:=S.keep hb;replace B:=B.keep hb;clear own6;have Bc:=B.cell;have Yc1:=S.Y.cell)
  rw [rounds_succ]
  clear Y9 h9 Yc n8 nb
  clear hb
  go_upto_region 8 with fail
  have hba:=below_one (w:=w6) (.cells #[.int .i64 k4,.int .u64 n4,.string s4,.slice A4 m4 c4] 25)
  have n8:=S.Y.lt
  have nb:=B.lt
  have Y8:=Blk.new w6 25 #[.int .i64 k4,.int .u64 n4,.string s4,.slice A4 m4 c4]
  replace S:=S.keep hba
  replace B:=B.keep hba
  clear hba Bc Yc1
  revert S
  revert B
  revert Y8
  revert nb
  revert n8
  generalize World.alloc w6 _=W7
  generalize w6.heap.size=g10
  intro n8 nb Y8 B S
  have Yc:=S.Y.cell
  have Y8c:=Y8.cell
  have h9:=S.h.holds
  go_upto_region 13 with (first|(go_at_call 10;(with_reducible refine (Hfr.out _ _ h9).mono ?_);rintro e w6 ⟨v6,rfl,own6,hb⟩;obtain ⟨A6,c6,rfl,hc6l,hc6m⟩:=own6.form;have by6:=own6.bytes.2.2;replace S:=S.keep hb;clear own6)|(go_at_call 19;(with_reducible refine (Htk.out _ _ _ _ S.kk by6 hc6l hc6m).mono ?_);rintro e w7 ⟨A2,c2,rfl,hI,hcl,hA,hb7⟩;have xl:=S.X.lt;replace S:=S.keep hb7))
  have hba:=below_one (w:=w7) (.cells #[.int .i64 k,.int .i64 i,.int .i64 n,.int .i64 br,.int .i64 bb,.int .i64 tr,.int .i64 tb,.int .i64 st,.int .i64 ck,.int .i64 cc,.int .i64 cq,.string cy,.string cx,.int .i64 cr,.slice A2 l.length c2,.int .i64 sq,.int .i64 tg,.int .i64 ver] 50)
  have M12:=Blk.new w7 50 #[.int .i64 k,.int .i64 i,.int .i64 n,.int .i64 br,.int .i64 bb,.int .i64 tr,.int .i64 tb,.int .i64 st,.int .i64 ck,.int .i64 cc,.int .i64 cq,.string cy,.string cx,.int .i64 cr,.slice A2 l.length c2,.int .i64 sq,.int .i64 tg,.int .i64 ver]
  replace S:=S.keep hba
  have hI2:=IdsAt.keep hI hba
  have hne:∀ad,A2=some ad→w.heap.size<ad.block:=fun ad e=>Nat.lt_of_lt_of_le xl (hA ad e)
  clear hba hI hA hb7 hb by6 Yc
  revert hI2
  revert S
  revert M12
  generalize World.alloc w7 _=W12
  generalize w7.heap.size=g12
  intro M12 S hI2
  have l1:=msg_load M12
  have hI3:=Lib.hid hI2
  clear hI2
  go_wp2_with (go_at_call 38;(with_reducible refine (Hhg.out A2 c2 _).mono ?_);rintro e w8 ⟨rfl,hb⟩;replace S:=S.keep hb;replace M12:=M12.keep hb;have hI4:=hI3.out.keep hb;have l3:=msg_load M12;have Mc:=M12.cell;have l2:=msg_store S.X rfl)
  refine bodyPost_ret (results_msg2 rfl rfl rfl (S.X.msgSet rfl)) rfl ?_
  exact ⟨A2,c2,rfl,hI4.msgSet (fun ad e=>Nat.ne_of_gt (hne ad e)) _,hcl,fun ad e=>Nat.le_of_lt (hne ad e),below_msgSet S.kk (Nat.le_refl _) _⟩
end Go.Proofs.YtlolnakeancenaaDoor
namespace Go.Proofs.YtlolnakeancenaaDoor
open Go.RowKit
set_option linter.unusedVariables false
set_option linter.unusedSimpArgs false
set_option maxRecDepth 20000
attribute [local go_sem ↓] Go.wp_at_zero Go.wp_at_succ
attribute [local go_sem] World.cell?_alloc_some frozen_alloc_some
attribute [local go_sem ↓ high] loadVar_msg storeVar_msg msg_store_new
set_option maxHeartbeats 16000000 in
theorem down11_any (M:MsgT) (w:World) (hK:KindsAt w) (ha:M.Ok w) (hT:Tabs w) (hy:M.cy.size≤60000):
  Calls Tryd.prog 23 #[M.v] w (Puts w .i64 5 (downL M) (downE M)):=by
 have hput:=fun W (h:Below w.heap.size w W)=>put10_any M W (hK.keep h) (ha.keep h) (hT.keep h) hy
 have hhg:=fun W=>hangs_any M W
 simp only [hangs_kAt] at hhg
 by_cases hE:putE M=0
 case neg=>
  have e1:downE M=putE M:=by unfold downE;rw [if_pos hE]
  have e2:downL M=[]:=by unfold downL;rw [e1,if_neg hE]
  rw [e1,e2]
  clear e1 e2 hK ha hT hy hhg
  generalize putL M=L at*
  generalize putE M=E at*
  have hE':((E:Int) != 0)=true:=by simp;omega
  obtain ⟨k,i,n,br,bb,tr,tb,st,ck,cc,cq,cy,cx,cr,A,m,cap,sq,tg,ver,l⟩:=M
  simp only [MsgT.v] at hput ⊢
  have Hput:=Lib.hid hput
  clear hput
  have X:Blk (w.alloc (.cells #[.int .i64 k,.int .i64 i,.int .i64 n,.int .i64 br,.int .i64 bb,.int .i64 tr,.int .i64 tb,.int .i64 st,.int .i64 ck,.int .i64 cc,.int .i64 cq,.string cy,.string cx,.int .i64 cr,.slice A m cap,.int .i64 sq,.int .i64 tg,.int .i64 ver] 50)) w.heap.size 50 #[.int .i64 k,.int .i64 i,.int .i64 n,.int .i64 br,.int .i64 bb,.int .i64 tr,.int .i64 tb,.int .i64 st,.int .i64 ck,.int .i64 cc,.int .i64 cq,.string cy,.string cx,.int .i64 cr,.slice A m cap,.int .i64 sq,.int .i64 tg,.int .i64 ver]:=Blk.new w _ _
  have kk:Below w.heap.size w (w.alloc (.cells #[.int .i64 k,.int .i64 i,.int .i64 n,.int .i64 br,.int .i64 bb,.int .i64 tr,.int .i64 tb,.int .i64 st,.int .i64 ck,.int .i64 cc,.int .i64 cq,.string cy,.string cx,.int .i64 cr,.slice A m cap,.int .i64 sq,.int .i64 tg,.int .i64 ver] 50)):=below_one _
  have l1:=msg_load X
  go_enter Tryd.func23,Tryd.ntmps23
  go_wp2_with (go_at_call 17;(with_reducible refine (Hput.out _ kk).mono ?_);rintro e w1 ⟨v1,rfl,own1,hb⟩;obtain ⟨A1,c1,rfl, -, -⟩:=own1.form;clear own1;replace kk:=below_call kk hb kk.size)
  refine bodyPost_ret (v:=.tuple #[.slice none 0 0,.int .i64 (E:Int)]) (by simp [results,Tryd.results23,go_sem, *] <;> rfl) rfl ?_
  exact ⟨_,rfl,OwnB.nil_ _ _ _,kk⟩
 have hm:=putE_mok hE
 have hpE:=mperr hm hy
 have hpL:putL M=mframe 2 (pform (ltree (mparts M))):=by unfold putL;rw [if_pos hm,if_pos hpE]
 rw [hpL,hE] at hput
 by_cases hbad:M.ck=6∨(kAt M.k M.st=true∧M.tg≠1)
 ·have e1:downE M=17:=by unfold downE;rw [if_neg (fun h=>h hE),if_pos hbad]
  have e2:downL M=[]:=by unfold downL;rw [e1,if_neg (by decide)]
  rw [e1,e2]
  clear e1 e2 hK ha hT hy hE hm hpE hpL
  generalize mframe 2 (pform (ltree (mparts M)))=L at*
  obtain ⟨k,i,n,br,bb,tr,tb,st,ck,cc,cq,cy,cx,cr,A,m,cap,sq,tg,ver,l⟩:=M
  simp only [MsgT.v] at hput hhg hbad ⊢
  generalize kAt k st=ka at*
  have Hput:=Lib.hid hput
  have Hhg:=Lib.hid hhg
  clear hput hhg
  have X:Blk (w.alloc (.cells #[.int .i64 k,.int .i64 i,.int .i64 n,.int .i64 br,.int .i64 bb,.int .i64 tr,.int .i64 tb,.int .i64 st,.int .i64 ck,.int .i64 cc,.int .i64 cq,.string cy,.string cx,.int .i64 cr,.slice A m cap,.int .i64 sq,.int .i64 tg,.int .i64 ver] 50)) w.heap.size 50 #[.int .i64 k,.int .i64 i,.int .i64 n,.int .i64 br,.int .i64 bb,.int .i64 tr,.int .i64 tb,.int .i64 st,.int .i64 ck,.int .i64 cc,.int .i64 cq,.string cy,.string cx,.int .i64 cr,.slice A m cap,.int .i64 sq,.int .i64 tg,.int .i64 ver]:=Blk.new w _ _
  have kk:Below w.heap.size w (w.alloc (.cells #[.int .i64 k,.int .i64 i,.int .i64 n,.int .i64 br,.int .i64 bb,.int .i64 tr,.int .i64 tb,.int .i64 st,.int .i64 ck,.int .i64 cc,.int .i64 cq,.string cy,.string cx,.int .i64 cr,.slice A m cap,.int .i64 sq,.int .i64 tg,.int .i64 ver] 50)):=below_one _
  have l1:=msg_load X
  by_cases h6:ck=6
  ·subst h6
   clear hbad Hhg
   go_enter Tryd.func23,Tryd.ntmps23
   go_wp2_with (go_at_call 17;(with_reducible refine (Hput.out _ kk).mono ?_);rintro e w1 ⟨v1,rfl,own1,hb⟩;obtain ⟨A1,c1,rfl, -, -⟩:=own1.form;clear own1;replace kk:=below_call kk hb kk.size;replace X:=X.keep hb;have Xc:=X.cell)
   refine bodyPost_ret (v:=.tuple #[.slice none 0 0,.int .i64 17]) (by simp [results,Tryd.results23,go_sem, *] <;> rfl) rfl ?_
   exact ⟨_,rfl,OwnB.nil_ _ _ _,kk⟩
  ·obtain ⟨rfl,ht1⟩:=hbad.resolve_left h6
   have h6':(ck==6)=false:=by simp [h6]
   have ht1':(tg != 1)=true:=by simp [ht1]
   clear hbad
   go_enter Tryd.func23,Tryd.ntmps23
   go_wp2_with (first
    |(go_at_call 17;(with_reducible refine (Hput.out _ kk).mono ?_);rintro e w1 ⟨v1,rfl,own1,hb⟩;obtain ⟨A1,c1,rfl, -, -⟩:=own1.form;clear own1;replace kk:=below_call kk hb kk.size;replace X:=X.keep hb;have Xc:=X.cell;have l2:=msg_load X)
    |(go_at_call 38;(with_reducible refine (Hhg.out _).mono ?_);rintro e w2 ⟨rfl,hb2⟩;replace kk:=below_call kk hb2 kk.size;replace X:=X.keep hb2;have Xc2:=X.cell))
   refine bodyPost_ret (v:=.tuple #[.slice none 0 0,.int .i64 17]) (by simp [results,Tryd.results23,go_sem, *] <;> rfl) rfl ?_
   exact ⟨_,rfl,OwnB.nil_ _ _ _,kk⟩
 have e1:downE M=0:=by unfold downE;rw [if_neg (fun h=>h hE),if_neg hbad]
 have e2:downL M=mframe 1 (pform (ltree (oldP M))):=by unfold downL;rw [if_pos e1]
 rw [e1,e2]
 have h6:M.ck≠6:=fun h=>hbad (.inl h)
 have ht1:kAt M.k M.st=true→M.tg=1:=fun h=>Decidable.byContradiction fun h2=>hbad (.inr ⟨h,h2⟩)
 have hop:∀W A n c,Bytes W A n (mframe 2 (pform (ltree (mparts M))))→n≤c→c≤maxLen→Calls Tryd.prog 12 #[.int .u8 2,.slice A n c] W (Opens W (ltree (mparts M),0)):=fun W A n c hb hn hc=>by
  have:=open_any 2 (by decide) A n c _ W hb hn hc
  rw [mopen_frame (mparts_good hm hy) hpE,if_neg (by decide),if_neg (by decide)] at this
  exact this
 have hfr:∀v W,Holds W (ltree (oldP M)) v→Calls Tryd.prog 10 #[.int .u8 1,v] W (Puts W .i64 5 (mframe 1 (pform (ltree (oldP M)))) 0):=fun v W h=>by
  have:=frame_any 1 (by decide) (ltree (oldP M)) v W (by have:=(oldP_good hm hy).2;omega) h
  rw [old_perr hm hy,if_pos rfl] at this
  exact this
 have hla:kAt M.k M.st=true→∀W v S0,HoldsIn W S0 (ltree (mparts M)) v→Calls Tryd.prog 39 #[v,.func (.func 40) #[] #[]] W (Lasts W S0 (ltree (oldP M),true)):=fun hk W v S0 hv=>by
  obtain ⟨Y,hYe⟩:=mparts_hang hm hk
  have ho:oldP M=(mparts M).dropLast++ [otree M.l M.sq]:=by unfold oldP;rw [if_pos hk]
  rw [ho]
  have hck:=mok_attr hm hk
  refine last_down 2 0 ByteArray.empty (mparts M) v W Y.length (atree M.l M.sq M.tg) (otree M.l M.sq) true (by rw [hYe];simp) ?_ (by rw [hYe];simp) S0 hv ?_
  ·have h1:=mparts_size hm
   have h2:=tsizes_len (mparts M)
   have h3:tsize (ltree (mparts M))=1+0+tsizes (mparts M):=rfl
   have h4:(mparts M).length=Y.length+1:=by rw [hYe];simp
   omega
  ·intro W2 y hb h
   have e:M.p=⟨M.l,M.sq,M.tg⟩:=rfl
   rw [e] at hck
   rw [ht1 hk] at h hck
   exact down_good M.l M.sq hck y W2 h
 have hno:kAt M.k M.st=false→oldP M=mparts M:=fun hk=>by unfold oldP;rw [if_neg (by rw [hk];decide)]
 clear e1 e2 hK ha hT hy hE hm hpE hpL hbad
 generalize mframe 2 (pform (ltree (mparts M)))=L at*
 generalize mframe 1 (pform (ltree (oldP M)))=LO at*
 generalize oldP M=PO at*
 generalize mparts M=PM at*
 obtain ⟨k,i,n,br,bb,tr,tb,st,ck,cc,cq,cy,cx,cr,A,m,cap,sq,tg,ver,l⟩:=M
 simp only [MsgT.v] at hput hhg h6 ht1 hla hno ⊢
 generalize kAt k st=ka at*
 have h6':(ck==6)=false:=by simp [h6]
 have ht1':ka=true→(tg != 1)=false:=fun h=>by simp [ht1 h]
 have Hput:=Lib.hid hput
 have Hhg:=Lib.hid hhg
 have Hop:=Lib.hid hop
 have Hfr:=Lib.hid hfr
 have Hla:=Lib.hid hla
 have Hno:=Lib.hid hno
 clear hput hhg hop hfr hla hno ht1 h6
 have X:Blk (w.alloc (.cells #[.int .i64 k,.int .i64 i,.int .i64 n,.int .i64 br,.int .i64 bb,.int .i64 tr,.int .i64 tb,.int .i64 st,.int .i64 ck,.int .i64 cc,.int .i64 cq,.string cy,.string cx,.int .i64 cr,.slice A m cap,.int .i64 sq,.int .i64 tg,.int .i64 ver] 50)) w.heap.size 50 #[.int .i64 k,.int .i64 i,.int .i64 n,.int .i64 br,.int .i64 bb,.int .i64 tr,.int .i64 tb,.int .i64 st,.int .i64 ck,.int .i64 cc,.int .i64 cq,.string cy,.string cx,.int .i64 cr,.slice A m cap,.int .i64 sq,.int .i64 tg,.int .i64 ver]:=Blk.new w _ _
 have kk:Below w.heap.size w (w.alloc (.cells #[.int .i64 k,.int .i64 i,.int .i64 n,.int .i64 br,.int .i64 bb,.int .i64 tr,.int .i64 tb,.int .i64 st,.int .i64 ck,.int .i64 cc,.int .i64 cq,.string cy,.string cx,.int .i64 cr,.slice A m cap,.int .i64 sq,.int .i64 tg,.int .i64 ver] 50)):=below_one _
 have l1:=msg_load X
 cases ka
 ·have e:=Hno.out (by first|trivial|rfl)
  subst e
  clear Hno Hla ht1'
  go_enter Tryd.func23,Tryd.ntmps23
  go_upto_region 8 with (first
   |(go_at_call 17;(with_reducible refine (Hput.out _ kk).mono ?_);rintro e w1 ⟨v1,rfl,own1,hb⟩;obtain ⟨A1,c1,rfl,hc1,hm1⟩:=own1.form;have by1:=own1.bytes.2.2;clear own1;replace kk:=below_call kk hb kk.size;replace X:=X.keep hb;have Xc:=X.cell;have l2:=msg_load X)
   |(go_at_call 38;(with_reducible refine (Hhg.out _).mono ?_);rintro e w2 ⟨rfl,hb2⟩;replace kk:=below_call kk hb2 kk.size;replace X:=X.keep hb2;replace by1:=by1.keep hb2;have Xc2:=X.cell)
   |(go_at_call 12;(with_reducible refine (Hop.out _ _ _ _ by1 hc1 hm1).mono ?_);rintro e w3 ⟨y3,rfl,hin,hb3⟩;obtain ⟨k4,n4,s4,A4,m4,c4,rfl⟩:=hin.form;replace kk:=below_call kk hb3 kk.size;replace X:=X.keep hb3))
  have hba:=below_one (w:=w3) (.cells #[.int .i64 k4,.int .u64 n4,.string s4,.slice A4 m4 c4] 25)
  replace kk:=below_call kk hba kk.size
  replace X:=X.keep hba
  have Y:=Blk.new w3 25 #[.int .i64 k4,.int .u64 n4,.string s4,.slice A4 m4 c4]
  have hy:=(hin.holds).keep hba
  clear hin hba hb3 by1
  revert kk
  revert X
  revert Y
  revert hy
  generalize World.alloc w3 _=W
  generalize w3.heap.size=g6
  intro hy Y X kk
  have l3:=msg_load X
  have Yc:=Y.cell
  go_wp2_with (first
   |(go_at_call 38;(with_reducible refine (Hhg.out _).mono ?_);rintro e w4 ⟨rfl,hb⟩;replace kk:=below_call kk hb kk.size;replace hy:=hy.keep hb;replace Y:=Y.keep hb;have Yc2:=Y.cell)
   |(go_at_call 10;(with_reducible refine (Hfr.out _ _ hy).mono ?_);rintro e w5 ⟨v5,rfl,own5,hb⟩;have kz:=kk.size;replace kk:=below_call kk hb kk.size))
  refine bodyPost_ret (v:=.tuple #[v5,.int .i64 0]) (by simp [results,Tryd.results23,go_sem, *] <;> rfl) rfl ?_
  exact ⟨_,rfl,own5.lower kz,kk⟩
 ·have ht1'':=ht1' (by first|trivial|rfl)
  have hla2:=Hla.out (by first|trivial|rfl)
  have Hla2:=Lib.hid hla2
  clear hla2 Hla
  clear Hno ht1'
  go_enter Tryd.func23,Tryd.ntmps23
  go_upto_region 8 with (first
   |(go_at_call 17;(with_reducible refine (Hput.out _ kk).mono ?_);rintro e w1 ⟨v1,rfl,own1,hb⟩;obtain ⟨A1,c1,rfl,hc1,hm1⟩:=own1.form;have by1:=own1.bytes.2.2;clear own1;replace kk:=below_call kk hb kk.size;replace X:=X.keep hb;have Xc:=X.cell;have l2:=msg_load X)
   |(go_at_call 38;(with_reducible refine (Hhg.out _).mono ?_);rintro e w2 ⟨rfl,hb2⟩;replace kk:=below_call kk hb2 kk.size;replace X:=X.keep hb2;replace by1:=by1.keep hb2;have Xc2:=X.cell)
   |(go_at_call 12;(with_reducible refine (Hop.out _ _ _ _ by1 hc1 hm1).mono ?_);rintro e w3 ⟨y3,rfl,hin,hb3⟩;obtain ⟨k4,n4,s4,A4,m4,c4,rfl⟩:=hin.form;replace kk:=below_call kk hb3 kk.size;replace X:=X.keep hb3))
  have hba:=below_one (w:=w3) (.cells #[.int .i64 k4,.int .u64 n4,.string s4,.slice A4 m4 c4] 25)
  replace kk:=below_call kk hba kk.size
  replace X:=X.keep hba
  have Y:=Blk.new w3 25 #[.int .i64 k4,.int .u64 n4,.string s4,.slice A4 m4 c4]
  have hy:HoldsIn _ (fun b=>b<w3.heap.size) _ _:=((hin.there).mono (fun b h=>h.2)).under hba
  have gz:w.heap.size≤w3.heap.size:=by have:=X.lt;simp at this;have h2:=kk.size;simp at h2;omega
  clear hin hba hb3 by1
  revert kk
  revert X
  revert Y
  revert hy
  revert gz
  generalize World.alloc w3 _=W
  generalize w3.heap.size=g6
  intro gz hy Y X kk
  have l3:=msg_load X
  have Yc:=Y.cell
  go_upto_region 10 with (first
   |(go_at_call 38;(with_reducible refine (Hhg.out _).mono ?_);rintro e w4 ⟨rfl,hb⟩;replace kk:=below_call kk hb kk.size;replace hy:=hy.under hb;replace Y:=Y.keep hb;have Yc2:=Y.cell)
   |(go_at_call 39;(with_reducible refine (Hla2.out _ _ _ hy).mono ?_);rintro e w5 ⟨y5,rfl,hin5,hb⟩;obtain ⟨k7,n7,s7,A7,m7,c7,rfl⟩:=hin5.form;have gy:=Y.lt;replace kk:=below_call kk hb kk.size;replace Y:=Y.keep hb;have Yc3:=Y.cell;have Yf3:=Y.frozen))
  have Y9:=Y.set4 (.int .i64 k7) (.int .u64 n7) (.string s7) (.slice A7 m7 c7)
  have h9:=(hin_set4 hin5 (g:=g6) (fun h=>by omega) (.int .i64 k7) (.int .u64 n7) (.string s7) (.slice A7 m7 c7)).holds
  have k9:Below w.heap.size w _:=(((kk.setCell (p:=⟨g6,0,none⟩) gz (.int .i64 k7)).setCell (p:=⟨g6,1,none⟩) gz (.int .u64 n7)).setCell (p:=⟨g6,2,none⟩) gz (.string s7)).setCell (p:=⟨g6,3,none⟩) gz (.slice A7 m7 c7)
  clear Y hin5 kk Yc Yc2 Yc3 Yf3 hy gy X l3
  revert k9
  revert h9
  revert Y9
  generalize World.setCell _ _ _=W9
  intro Y9 h9 k9
  have Yc:=Y9.cell
  go_wp2_with (go_at_call 10;(with_reducible refine (Hfr.out _ _ h9).mono ?_);rintro e w8 ⟨v8,rfl,own8,hb⟩;have kz:=k9.size;replace k9:=below_call k9 hb k9.size)
  refine bodyPost_ret (v:=.tuple #[v8,.int .i64 0]) (by simp [results,Tryd.results23,go_sem, *] <;> rfl) rfl ?_
  exact ⟨_,rfl,own8.lower kz,k9⟩
end Go.Proofs.YtlolnakeancenaaDoor
namespace Go.Proofs.YtlolnakeancenaaDoor
open Go.RowKit
set_option linter.unusedVariables false
set_option linter.unusedSimpArgs false
set_option maxRecDepth 20000
attribute [local go_sem ↓] Go.wp_at_zero Go.wp_at_succ
attribute [local go_sem] World.cell?_alloc_some frozen_alloc_some
attribute [local go_sem ↓ high] loadVar_msg storeVar_msg msg_store_new
/-- A message whose tag is not the old form's. -/
def mpre:MsgT:=⟨1,0,0,0,0,0,0,0,1,1,1,⟨#[97]⟩,⟨#[]⟩,0,none,0,0,0,2,0,[]⟩
theorem mpre_ok:mok mpre=true:=by
 have e:plainM mpre=mpre:=rfl
 have h:mright mpre=true:=by kernel_rfl
 unfold mok
 rw [e,msame_self,h]
 rfl
set_option maxHeartbeats 8000000 in
theorem awake11 (w:World) (hK:KindsAt w) (hT:Tabs w):Calls Tryd.prog 21 #[] w (Gives w (.bool true)):=by
 have hz:(Lit.int .i64 0).wf=true:=by decide
 have ho:(Lit.int .i64 1).wf=true:=by decide
 have hpy:mpre.cy.size≤60000:=(by decide:1≤60000)
 have hp0:putE mpre=0:=by unfold putE;rw [if_pos mpre_ok,mperr mpre_ok hpy]
 have e1:downE mpre=17:=by unfold downE;rw [if_neg (fun h=>h hp0),if_pos (.inr ⟨rfl,by decide⟩)]
 have e2:downL mpre=[]:=by unfold downL;rw [e1,if_neg (by decide)]
 have hd1:∀W,Below w.heap.size w W→Calls Tryd.prog 23 #[.agg #[.int .i64 1,.int .i64 0,.int .i64 0,.int .i64 0,.int .i64 0,.int .i64 0,.int .i64 0,.int .i64 0,.int .i64 1,.int .i64 1,.int .i64 1,.string ⟨#[97]⟩,.string ⟨#[]⟩,.int .i64 0,.slice none 0 0,.int .i64 0,.int .i64 2,.int .i64 0]] W (Puts W .i64 5 [] 17):=fun W h=>by
  have:=down11_any mpre W (hK.keep h) ⟨ho,hz,hz,hz,hz,hz,hz,hz,ho,ho,ho,(by decide:1≤maxLen),Nat.zero_le _,hz,Nat.le_refl _,Nat.le_refl _,IdsAt.nil,hz,by decide,hz⟩ (hT.keep h) hpy
  rw [e1,e2] at this
  exact this
 have h1:(1:Int)=1∨(1:Int)=2:=.inl rfl
 have hok:=hello_ok 1 h1
 have hyz:(mhello 1).cy.size≤60000:=Nat.zero_le _
 have hq0:putE (mhello 1)=0:=by unfold putE;rw [if_pos hok,mperr hok hyz]
 have e3:downE (mhello 1)=0:=by
  unfold downE
  rw [if_neg (fun h=>h hq0),if_neg]
  rintro (h|⟨h, -⟩)
  ·exact absurd h (by decide)
  ·exact absurd h (by decide)
 have eo:oldP (mhello 1)=mparts (mhello 1):=by unfold oldP;rw [if_neg (by decide)]
 have e4:downL (mhello 1)=mframe 1 (pform (ltree (oldP (mhello 1)))):=by unfold downL;rw [if_pos e3]
 have hd2:∀W,Below w.heap.size w W→Calls Tryd.prog 23 #[.agg #[.int .i64 9,.int .i64 0,.int .i64 0,.int .i64 0,.int .i64 0,.int .i64 0,.int .i64 0,.int .i64 0,.int .i64 0,.int .i64 0,.int .i64 0,.string ⟨#[]⟩,.string ⟨#[]⟩,.int .i64 0,.slice none 0 0,.int .i64 0,.int .i64 0,.int .i64 1]] W (Puts W .i64 5 (mframe 1 (pform (ltree (oldP (mhello 1))))) 0):=fun W h=>by
  have:=down11_any (mhello 1) W (hK.keep h) (hello_okw W 1 h1) (hT.keep h) hyz
  rw [e3,e4] at this
  exact this
 have hup:∀W A m c,Below w.heap.size w W→Bytes W A m (mframe 1 (pform (ltree (oldP (mhello 1)))))→m≤c→c≤maxLen→Calls Tryd.prog 24 #[.slice A m c] W (fun e w'=>∃A2 c2,e= .returned (.tuple #[.agg #[.int .i64 9,.int .i64 0,.int .i64 0,.int .i64 0,.int .i64 0,.int .i64 0,.int .i64 0,.int .i64 0,.int .i64 0,.int .i64 0,.int .i64 0,.string ⟨#[]⟩,.string ⟨#[]⟩,.int .i64 0,.slice A2 0 c2,.int .i64 0,.int .i64 0,.int .i64 1],.int .i64 0])∧Below W.heap.size W w'):=fun W A m c h hb hm hc=>
  (up_good (mhello 1) A m c W hok e3 hyz hb hm hc (hK.keep h) (hT.keep h)).mono fun e w' ⟨A2,c2,h1,_,_,_,h5⟩=>⟨A2,c2,h1,h5⟩
 have hfl:=mframe_len 1 (pform (ltree (oldP (mhello 1))))
 rw [eo,hello_len 1 h1,←eo] at hfl
 have hf0:(mframe 1 (pform (ltree (oldP (mhello 1)))))[0]? =some 1:=rfl
 clear hok e1 e2 e3 e4 eo hK hT h1 hz ho hpy hp0 hq0 hyz
 generalize mframe 1 (pform (ltree (oldP (mhello 1))))=L at*
 have Hd1:=Lib.hid hd1
 have Hd2:=Lib.hid hd2
 have Hup:=Lib.hid hup
 have Hf0:=Lib.hid hf0
 clear hd1 hd2 hup hf0
 have kk:Below w.heap.size w (w.alloc (.cells #[.int .i64 1,.int .i64 1,.int .i64 1,.string ⟨#[97]⟩,.string ⟨#[]⟩,.int .i64 0] 45)):=below_one _
 go_enter Tryd.func21,Tryd.ntmps21
 go_wp2_with (first
  |(go_at_call 23;(with_reducible refine (Hd1.out _ kk).mono ?_);rintro e w1 ⟨v1,rfl,own1,hb⟩;obtain ⟨A1,c1,rfl, -, -⟩:=own1.form;clear own1;replace kk:=below_call kk hb kk.size;clear hb)
  |(go_at_call 23;(with_reducible refine (Hd2.out _ kk).mono ?_);rintro e w2 ⟨v2,rfl,own2,hb⟩;obtain ⟨A2,c2,rfl,hc2,hm2⟩:=own2.form;have by2:=own2.bytes.2.2;clear own2;replace kk:=below_call kk hb kk.size;clear hb;rw [hfl] at by2 hc2;simp only [hfl];obtain ⟨ad,x,rfl,hx, -,hxc⟩:=by2.at_ (k:=0) (by decide);rw [show ad.add 0=ad from rfl] at hxc;obtain rfl:1=x:=(by have h:=Hf0.out;rw [hx] at h;injection h with h;exact h.symm))
  |(go_at_call 24;(with_reducible refine (Hup.out _ _ _ _ kk by2 hc2 hm2).mono ?_);rintro e w3 ⟨A5,c5,rfl,hb⟩;replace hxc:=cell_keep hb hxc;replace kk:=below_call kk hb kk.size;have kw:=below_call kk (below_one (w:=w3) (.cells #[.int .i64 9,.int .i64 0,.int .i64 0,.int .i64 0,.int .i64 0,.int .i64 0,.int .i64 0,.int .i64 0,.int .i64 0,.int .i64 0,.int .i64 0,.string ⟨#[]⟩,.string ⟨#[]⟩,.int .i64 0,.slice A5 0 c5,.int .i64 0,.int .i64 0,.int .i64 1] 50)) kk.size;clear hb))
 go_ret
 exact ⟨rfl,kw⟩
end Go.Proofs.YtlolnakeancenaaDoor
namespace Go.Proofs.YtlolnakeancenaaDoor
open Go.RowKit
set_option linter.unusedVariables false
set_option linter.unusedSimpArgs false
set_option maxRecDepth 20000
attribute [local go_sem ↓] Go.wp_at_zero Go.wp_at_succ
attribute [local go_sem] World.cell?_alloc_some frozen_alloc_some
attribute [local go_sem ↓ high] loadVar_msg storeVar_msg msg_store_new
set_option maxHeartbeats 4000000 in
theorem read1_any (A:Option Addr) (n c:Nat) (R:MsgT) (e:Nat) (w:World) (hup:∀W,Below w.heap.size w W→Calls Tryd.prog 24 #[.slice A n c] W (Takes W (R,e))):
  Calls Tryd.prog 22 #[.slice A n c,.int .i64 1] w (Takes w (R,e)):=by
 have X0:=Blk.new w 50 #[.int .i64 0,.int .i64 0,.int .i64 0,.int .i64 0,.int .i64 0,.int .i64 0,.int .i64 0,.int .i64 0,.int .i64 0,.int .i64 0,.int .i64 0,.string ⟨#[]⟩,.string ⟨#[]⟩,.int .i64 0,.slice none 0 0,.int .i64 0,.int .i64 0,.int .i64 0]
 have k0:=below_one (w:=w) (.cells #[.int .i64 0,.int .i64 0,.int .i64 0,.int .i64 0,.int .i64 0,.int .i64 0,.int .i64 0,.int .i64 0,.int .i64 0,.int .i64 0,.int .i64 0,.string ⟨#[]⟩,.string ⟨#[]⟩,.int .i64 0,.slice none 0 0,.int .i64 0,.int .i64 0,.int .i64 0] 50)
 skip
 have Hup:=Lib.hid hup
 clear hup
 go_enter Tryd.func22,Tryd.ntmps22
 go_wp2_with (go_at_call 24;(with_reducible refine (Hup.out _ k0).mono ?_);rintro r w1 ⟨A2,c2,rfl,hI,hcl,hA,hb⟩;simp only [MsgT.v,MsgT.at];have xl:=X0.lt;have X1:=X0.keep hb;have k1:=below_call k0 hb k0.size;have l2:=msg_store X1 rfl)
 refine bodyPost_ret (results_msg2 rfl rfl rfl (X1.msgSet rfl)) rfl ?_
 have hne:∀ad,A2=some ad→w.heap.size<ad.block:=fun ad h=>Nat.lt_of_lt_of_le xl (hA ad h)
 exact ⟨A2,c2,rfl,hI.msgSet (fun ad h=>Nat.ne_of_gt (hne ad h)) _,hcl,fun ad h=>Nat.le_of_lt (hne ad h),below_msgSet k1 (Nat.le_refl _) _⟩
set_option maxHeartbeats 4000000 in
theorem read2_up (A:Option Addr) (n c:Nat) (R:MsgT) (e:Nat) (w:World) (hx:∃ad,A=some ad∧w.cell? ad=some (.int .u8 1)) (hn:0<n) (hup:∀W,Below w.heap.size w W→Calls Tryd.prog 24 #[.slice A n c] W (Takes W (R,e))):
  Calls Tryd.prog 22 #[.slice A n c,.int .i64 2] w (Takes w (R,e)):=by
 have X0:=Blk.new w 50 #[.int .i64 0,.int .i64 0,.int .i64 0,.int .i64 0,.int .i64 0,.int .i64 0,.int .i64 0,.int .i64 0,.int .i64 0,.int .i64 0,.int .i64 0,.string ⟨#[]⟩,.string ⟨#[]⟩,.int .i64 0,.slice none 0 0,.int .i64 0,.int .i64 0,.int .i64 0]
 have k0:=below_one (w:=w) (.cells #[.int .i64 0,.int .i64 0,.int .i64 0,.int .i64 0,.int .i64 0,.int .i64 0,.int .i64 0,.int .i64 0,.int .i64 0,.int .i64 0,.int .i64 0,.string ⟨#[]⟩,.string ⟨#[]⟩,.int .i64 0,.slice none 0 0,.int .i64 0,.int .i64 0,.int .i64 0] 50)
 (obtain ⟨ad,rfl,hc⟩:=hx;have hn':(0:Int)<(n:Int):=(by omega);have hc2:(w.alloc (.cells #[.int .i64 0,.int .i64 0,.int .i64 0,.int .i64 0,.int .i64 0,.int .i64 0,.int .i64 0,.int .i64 0,.int .i64 0,.int .i64 0,.int .i64 0,.string ⟨#[]⟩,.string ⟨#[]⟩,.int .i64 0,.slice none 0 0,.int .i64 0,.int .i64 0,.int .i64 0] 50)).cell? ad=some (.int .u8 1):=cell_keep k0 hc)
 have Hup:=Lib.hid hup
 clear hup
 go_enter Tryd.func22,Tryd.ntmps22
 go_wp2_with (go_at_call 24;(with_reducible refine (Hup.out _ k0).mono ?_);rintro r w1 ⟨A2,c2,rfl,hI,hcl,hA,hb⟩;simp only [MsgT.v,MsgT.at];have xl:=X0.lt;have X1:=X0.keep hb;have k1:=below_call k0 hb k0.size;have l2:=msg_store X1 rfl)
 refine bodyPost_ret (results_msg2 rfl rfl rfl (X1.msgSet rfl)) rfl ?_
 have hne:∀ad,A2=some ad→w.heap.size<ad.block:=fun ad h=>Nat.lt_of_lt_of_le xl (hA ad h)
 exact ⟨A2,c2,rfl,hI.msgSet (fun ad h=>Nat.ne_of_gt (hne ad h)) _,hcl,fun ad h=>Nat.le_of_lt (hne ad h),below_msgSet k1 (Nat.le_refl _) _⟩
set_option maxHeartbeats 4000000 in
theorem read2_take (A:Option Addr) (n c:Nat) (R:MsgT) (e:Nat) (w:World) (x:Int) (hx:∃ad,A=some ad∧w.cell? ad=some (.int .u8 x)) (hn:0<n) (hx1:x≠1) (hup:∀W,Below w.heap.size w W→Calls Tryd.prog 19 #[.slice A n c] W (Takes W (R,e))):
  Calls Tryd.prog 22 #[.slice A n c,.int .i64 2] w (Takes w (R,e)):=by
 have X0:=Blk.new w 50 #[.int .i64 0,.int .i64 0,.int .i64 0,.int .i64 0,.int .i64 0,.int .i64 0,.int .i64 0,.int .i64 0,.int .i64 0,.int .i64 0,.int .i64 0,.string ⟨#[]⟩,.string ⟨#[]⟩,.int .i64 0,.slice none 0 0,.int .i64 0,.int .i64 0,.int .i64 0]
 have k0:=below_one (w:=w) (.cells #[.int .i64 0,.int .i64 0,.int .i64 0,.int .i64 0,.int .i64 0,.int .i64 0,.int .i64 0,.int .i64 0,.int .i64 0,.int .i64 0,.int .i64 0,.string ⟨#[]⟩,.string ⟨#[]⟩,.int .i64 0,.slice none 0 0,.int .i64 0,.int .i64 0,.int .i64 0] 50)
 (obtain ⟨ad,rfl,hc⟩:=hx;have hn':(0:Int)<(n:Int):=(by omega);have hx':(x==1)=false:=(by simp [hx1]);have hc2:(w.alloc (.cells #[.int .i64 0,.int .i64 0,.int .i64 0,.int .i64 0,.int .i64 0,.int .i64 0,.int .i64 0,.int .i64 0,.int .i64 0,.int .i64 0,.int .i64 0,.string ⟨#[]⟩,.string ⟨#[]⟩,.int .i64 0,.slice none 0 0,.int .i64 0,.int .i64 0,.int .i64 0] 50)).cell? ad=some (.int .u8 x):=cell_keep k0 hc)
 have Hup:=Lib.hid hup
 clear hup
 go_enter Tryd.func22,Tryd.ntmps22
 go_wp2_with (go_at_call 19;(with_reducible refine (Hup.out _ k0).mono ?_);rintro r w1 ⟨A2,c2,rfl,hI,hcl,hA,hb⟩;simp only [MsgT.v,MsgT.at];have xl:=X0.lt;have X1:=X0.keep hb;have k1:=below_call k0 hb k0.size;have l2:=msg_store X1 rfl)
 refine bodyPost_ret (results_msg2 rfl rfl rfl (X1.msgSet rfl)) rfl ?_
 have hne:∀ad,A2=some ad→w.heap.size<ad.block:=fun ad h=>Nat.lt_of_lt_of_le xl (hA ad h)
 exact ⟨A2,c2,rfl,hI.msgSet (fun ad h=>Nat.ne_of_gt (hne ad h)) _,hcl,fun ad h=>Nat.le_of_lt (hne ad h),below_msgSet k1 (Nat.le_refl _) _⟩
end Go.Proofs.YtlolnakeancenaaDoor
namespace Go.Proofs.YtlolnakeancenaaDoor
open Go.RowKit
set_option linter.unusedVariables false
set_option linter.unusedSimpArgs false
set_option maxRecDepth 20000
attribute [local go_sem ↓] Go.wp_at_zero Go.wp_at_succ
attribute [local go_sem] World.cell?_alloc_some frozen_alloc_some
attribute [local go_sem ↓ high] loadVar_msg storeVar_msg msg_store_new
/-- What the walks of the laws keep: the boxed message. -/
structure SlS (w:World) (MC:Array Value) (W:World):Prop where
 kk:Below w.heap.size w W
 X:Blk W w.heap.size 50 MC
theorem SlS.keep {w W w1:World} {MC:Array Value} (S:SlS w MC W) (hb:Below W.heap.size W w1):SlS w MC w1:=⟨below_call S.kk hb S.kk.size,S.X.keep hb⟩
theorem heads {W:World} {A:Option Addr} {n v:Nat} {P L:List Nat} (hL:L=mframe v P) (hb:Bytes W A n L):∃ad,A=some ad∧W.cell? ad=some (.int .u8 (v:Int))∧0<n:=by
 subst hL
 have hn:0<n:=by rw [hb.1,mframe_len];omega
 obtain ⟨ad,x,rfl,hx, -,hxc⟩:=hb.at_ (k:=0) hn
 rw [show ad.add 0=ad from rfl] at hxc
 have h:some v=some x:=hx
 injection h with h
 subst h
 exact ⟨ad,rfl,hxc,hn⟩
end Go.Proofs.YtlolnakeancenaaDoor
