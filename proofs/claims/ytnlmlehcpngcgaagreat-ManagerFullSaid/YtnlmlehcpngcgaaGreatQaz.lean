/- Contracts: canon.Make and View, of any form. -/
import Derived.Test.YtnlmlehcpngcgaaGreatQao
import Derived.Test.YtnlmlehcpngcgaaGreatQaq
import Derived.Test.YtnlmlehcpngcgaaGreatQar
import Derived.Test.YtnlmlehcpngcgaaGreatQas
import Derived.Test.YtnlmlehcpngcgaaGreatQat
import Derived.Test.YtnlmlehcpngcgaaGreatQau
import Derived.Test.YtnlmlehcpngcgaaGreatQav
import Derived.Test.YtnlmlehcpngcgaaGreatQaw
import Derived.Test.YtnlmlehcpngcgaaGreatQax
import Derived.Test.YtnlmlehcpngcgaaGreatQay
namespace Go.Proofs.YtnlmlehcpngcgaaGreat
set_option linter.unusedSimpArgs false
set_option linter.unusedVariables false
section
open Go.RowKit Go.Sort
set_option maxRecDepth 100000 in
set_option maxHeartbeats 4000000 in
theorem cmk_1 (F:List Nat) (g n room:Nat) (cs:List (Option Rec)) (free:List Int) (l:Int) (lo hi:Edg) (a b:Dg) (w:World) (h:StoreAt w F g n room cs free) (hfr:FreeOk cs free) (ht:Two cs 1 n l lo hi a b) :
  Calls Tryz.prog 56 #[.pointer (some ⟨g,0,none⟩),.int .u8 1,.int .i64 l,.agg lo.cells.toArray,.agg hi.cells.toArray] w (EdgeOut 1 w F g n room cs (fun cs' ed=>Unf cs' 1 ed (mkT 1 l a b))):=by
 have hF:=Lib.hid h.lt
 have HKA:=Lib.hid (fun W (hb:Below w.heap.size w W)=>mk_bdd F g n room cs free l lo hi a b W (h.on hb) hfr ht)
 obtain ⟨lt,lp⟩:=lo
 obtain ⟨ht',hp⟩:=hi
 simp only [Edg.cells] at HKA ⊢
 clear h hfr ht
 have H3:Hid (Below w.heap.size w (((w.alloc (.cells #[.int .u8 lt,.int .u32 lp] 48)).alloc (.cells #[.int .u8 ht',.int .u32 hp] 48)).alloc (.cells #[.int .u8 0,.int .u32 0] 48))):=Lib.hid ((((Below.refl _ _).alloc (Nat.le_refl _) _).alloc (by simp) _).alloc (by simp;omega) _)
 obtain ⟨W,hW⟩:∃W,W=(((w.alloc (.cells #[.int .u8 lt,.int .u32 lp] 48)).alloc (.cells #[.int .u8 ht',.int .u32 hp] 48)).alloc (.cells #[.int .u8 0,.int .u32 0] 48)):=⟨_,rfl⟩
 have hB0:Blk W w.heap.size 48 #[.int .u8 lt,.int .u32 lp]:=by rw [hW];exact ((Blk.new w _ _).alloc _).alloc _
 have hB1:Blk W (w.heap.size+1) 48 #[.int .u8 ht',.int .u32 hp]:=by rw [hW];exact (Blk.new_at (by simp) _ _).alloc _
 have hB2:Blk W (w.heap.size+2) 48 #[.int .u8 0,.int .u32 0]:=by rw [hW];exact Blk.new_at (by simp) _ _
 rw [← hW] at H3
 have HWS:Hid (W.heap.size=w.heap.size+3):=Lib.hid (by rw [hW];simp)
 have a0:W.cell? ⟨w.heap.size,0,none⟩=some (.int .u8 lt):=hB0.cell 0
 have a1:W.cell? ⟨w.heap.size,1,none⟩=some (.int .u32 lp):=hB0.cell 1
 have b0:W.cell? ⟨w.heap.size+1,0,none⟩=some (.int .u8 ht'):=hB1.cell 0
 have b1:W.cell? ⟨w.heap.size+1,1,none⟩=some (.int .u32 hp):=hB1.cell 1
 have HB2:=Lib.hid hB2
 have HWW:=Lib.hid hW
 clear hB0 hB1 hB2
 go_enter Tryz.func56,Tryz.ntmps56
 go_wp2_with fail
 rw [← HWW.out]
 clear hW
 refine (HKA.out W H3.out).mono ?_
 clear a0 a1 b0 b1
 rintro e w1 (⟨ed,cs2,free2,rfl,hP,hgr,hT⟩|⟨cs2,free2,rfl,hfull,hgr,hT⟩)
 all_goals
  have hB2:=HB2.out.chg hT.2 (fun hm=>by have:=hF.out _ hm;omega)
  have n0:w1.cell? ⟨w.heap.size+2,0,none⟩=some (.int .u8 0):=hB2.cell 0
  have n1:w1.cell? ⟨w.heap.size+2,1,none⟩=some (.int .u32 0):=hB2.cell 1
  have z0:=hB2.frozen 0
  have z1:=hB2.frozen 1
  have HTT:=Lib.hid hT
  clear hT hB2
 ·have HT:=Lib.hid (And.intro hP hgr)
  clear hP hgr
  obtain ⟨et,ep⟩:=ed
  simp only [Edg.cells]
  go_wp2_with fail
  refine bodyPost_ret (v:= .tuple #[.agg (⟨et,ep⟩:Edg).cells.toArray,.int .u8 0]) ?_ rfl (.inl ⟨⟨et,ep⟩,cs2,free2,rfl,HT.out.1,HT.out.2,?_⟩)
  ·simp [results,Tryz.results56,go_sem,Edg.cells, *]
  ·exact sto_down H3.out hF.out HTT.out (chg2 _ (w.heap.size+2) _ _) (fun k hk=>by have:=HWS.out;simp at hk;omega)
 ·have HT:=Lib.hid (And.intro hfull hgr)
  clear hfull hgr
  simp only [Edg.cells,Edg.nil]
  go_wp2_with fail
  refine bodyPost_ret (v:= .tuple #[.agg Edg.nil.cells.toArray,.int .u8 6]) ?_ rfl (.inr ⟨cs2,free2,rfl,HT.out.1,HT.out.2,?_⟩)
  ·simp [results,Tryz.results56,go_sem,Edg.cells,Edg.nil, *]
  ·exact sto_down H3.out hF.out HTT.out (chg2 _ (w.heap.size+2) _ _) (fun k hk=>by have:=HWS.out;simp at hk;omega)
set_option maxRecDepth 100000 in
set_option maxHeartbeats 4000000 in
theorem cvw_1 (F:List Nat) (g n room:Nat) (cs:List (Option Rec)) (free:List Int) (l:Int) (e:Edg) (T:Dg) (w:World) (h:StoreAt w F g n room cs free) (hfr:FreeOk cs free) (hun:Unf cs 1 e T) (hT:Ft 1 l T∧Gd 1 n T) (hl:0≤l∧l<n) :
  Calls Tryz.prog 102 #[.pointer (some ⟨g,0,none⟩),.int .u8 1,.agg e.cells.toArray,.int .i64 l] w (ViewOut 1 w F g n room cs (fun cs' lo hi=>Unf cs' 1 lo (viewT 1 l T).1∧Unf cs' 1 hi (viewT 1 l T).2)):=by
 have hF:=Lib.hid h.lt
 have HKA:=Lib.hid (fun W (hb:Below w.heap.size w W)=>vw_bdd F g n room cs free l e T W (h.on hb) hfr hun hT hl)
 obtain ⟨t,q⟩:=e
 simp only [Edg.cells] at HKA ⊢
 clear h hfr hun hT
 have H3:Hid (Below w.heap.size w (((w.alloc (.cells #[.int .u8 t,.int .u32 q] 48)).alloc (.cells #[.int .u8 0,.int .u32 0] 48)).alloc (.cells #[.int .u8 0,.int .u32 0] 48))):=Lib.hid ((((Below.refl _ _).alloc (Nat.le_refl _) _).alloc (by simp) _).alloc (by simp;omega) _)
 obtain ⟨W,hW⟩:∃W,W=(((w.alloc (.cells #[.int .u8 t,.int .u32 q] 48)).alloc (.cells #[.int .u8 0,.int .u32 0] 48)).alloc (.cells #[.int .u8 0,.int .u32 0] 48)):=⟨_,rfl⟩
 have hB0:Blk W w.heap.size 48 #[.int .u8 t,.int .u32 q]:=by rw [hW];exact ((Blk.new w _ _).alloc _).alloc _
 have hB1:Blk W (w.heap.size+1) 48 #[.int .u8 0,.int .u32 0]:=by rw [hW];exact (Blk.new_at (by simp) _ _).alloc _
 have hB2:Blk W (w.heap.size+2) 48 #[.int .u8 0,.int .u32 0]:=by rw [hW];exact Blk.new_at (by simp) _ _
 rw [← hW] at H3
 have HWS:Hid (W.heap.size=w.heap.size+3):=Lib.hid (by rw [hW];simp)
 have a0:W.cell? ⟨w.heap.size,0,none⟩=some (.int .u8 t):=hB0.cell 0
 have a1:W.cell? ⟨w.heap.size,1,none⟩=some (.int .u32 q):=hB0.cell 1
 have HB12:=Lib.hid (And.intro hB1 hB2)
 have HWW:=Lib.hid hW
 clear hB0 hB1 hB2
 go_enter Tryz.func102,Tryz.ntmps102
 go_wp2_with fail
 rw [← HWW.out]
 clear hW
 refine (HKA.out W H3.out).mono ?_
 clear a0 a1
 rintro e w1 (⟨lo,hi,cs2,free2,rfl,hP,hgr,hT⟩|⟨cs2,free2,rfl,hfull,hgr,hT⟩)
 all_goals
  have hB1:=HB12.out.1.chg hT.2 (fun hm=>by have:=hF.out _ hm;omega)
  have hB2:=HB12.out.2.chg hT.2 (fun hm=>by have:=hF.out _ hm;omega)
  have n0:w1.cell? ⟨w.heap.size+2,0,none⟩=some (.int .u8 0):=hB2.cell 0
  have n1:w1.cell? ⟨w.heap.size+2,1,none⟩=some (.int .u32 0):=hB2.cell 1
  have b0:w1.cell? ⟨w.heap.size+1,0,none⟩=some (.int .u8 0):=hB1.cell 0
  have b1:w1.cell? ⟨w.heap.size+1,1,none⟩=some (.int .u32 0):=hB1.cell 1
  have z0:=hB2.frozen 0
  have z1:=hB2.frozen 1
  have y0:=hB1.frozen 0
  have y1:=hB1.frozen 1
  have HTT:=Lib.hid hT
  have HB:=Lib.hid (And.intro hB1 hB2)
  clear hT hB1 hB2
 ·have HT:=Lib.hid (And.intro hP hgr)
  clear hP hgr
  obtain ⟨at_,ap⟩:=lo
  obtain ⟨bt,bp⟩:=hi
  simp only [Edg.cells]
  go_wp2_with fail
  refine post_gen (Boxes w.heap.size w1 (.int .u8 at_) (.int .u32 ap) (.int .u8 bt) (.int .u32 bp)) (by first |exact (((Boxes.refl HB.out.1 HB.out.2).lo _ _).hi _ _).drew|exact (((Boxes.refl HB.out.1 HB.out.2).lo _ _).hi _ _)) ?_
  rintro V2 ⟨hc2,hk1,hk2⟩
  clear b0 b1 n0 n1 z0 z1 y0 y1
  have b0:V2.cell? ⟨w.heap.size+1,0,none⟩=some (.int .u8 at_):=hk1.cell 0
  have b1:V2.cell? ⟨w.heap.size+1,1,none⟩=some (.int .u32 ap):=hk1.cell 1
  have n0:V2.cell? ⟨w.heap.size+2,0,none⟩=some (.int .u8 bt):=hk2.cell 0
  have n1:V2.cell? ⟨w.heap.size+2,1,none⟩=some (.int .u32 bp):=hk2.cell 1
  clear hk1 hk2
  refine bodyPost_ret (v:= .tuple #[.agg (⟨at_,ap⟩:Edg).cells.toArray,.agg (⟨bt,bp⟩:Edg).cells.toArray,.int .u8 0]) ?_ rfl (.inl ⟨⟨at_,ap⟩,⟨bt,bp⟩,cs2,free2,rfl,HT.out.1,HT.out.2,?_⟩)
  ·simp [results,Tryz.results102,go_sem,Edg.cells,Edg.nil, *]
  ·exact sto_down (G:=[w.heap.size+1,w.heap.size+2]) H3.out hF.out HTT.out hc2 (fun k hk=>by have:=HWS.out;simp at hk;omega)
 ·have HT:=Lib.hid (And.intro hfull hgr)
  clear hfull hgr
  simp only [Edg.cells,Edg.nil]
  go_wp2_with fail
  refine post_gen (Boxes w.heap.size w1 (.int .u8 0) (.int .u32 0) (.int .u8 0) (.int .u32 0)) (by first |exact (((Boxes.refl HB.out.1 HB.out.2).lo _ _).hi _ _).drew|exact (((Boxes.refl HB.out.1 HB.out.2).lo _ _).hi _ _)) ?_
  rintro V2 ⟨hc2,hk1,hk2⟩
  clear b0 b1 n0 n1 z0 z1 y0 y1
  have b0:V2.cell? ⟨w.heap.size+1,0,none⟩=some (.int .u8 0):=hk1.cell 0
  have b1:V2.cell? ⟨w.heap.size+1,1,none⟩=some (.int .u32 0):=hk1.cell 1
  have n0:V2.cell? ⟨w.heap.size+2,0,none⟩=some (.int .u8 0):=hk2.cell 0
  have n1:V2.cell? ⟨w.heap.size+2,1,none⟩=some (.int .u32 0):=hk2.cell 1
  clear hk1 hk2
  refine bodyPost_ret (v:= .tuple #[.agg Edg.nil.cells.toArray,.agg Edg.nil.cells.toArray,.int .u8 6]) ?_ rfl (.inr ⟨cs2,free2,rfl,HT.out.1,HT.out.2,?_⟩)
  ·simp [results,Tryz.results102,go_sem,Edg.cells,Edg.nil, *]
  ·exact sto_down (G:=[w.heap.size+1,w.heap.size+2]) H3.out hF.out HTT.out hc2 (fun k hk=>by have:=HWS.out;simp at hk;omega)
set_option maxRecDepth 100000 in
set_option maxHeartbeats 4000000 in
theorem cmk_2 (F:List Nat) (g n room:Nat) (cs:List (Option Rec)) (free:List Int) (l:Int) (lo hi:Edg) (a b:Dg) (w:World) (h:StoreAt w F g n room cs free) (hfr:FreeOk cs free) (ht:Two cs 2 n l lo hi a b) :
  Calls Tryz.prog 56 #[.pointer (some ⟨g,0,none⟩),.int .u8 2,.int .i64 l,.agg lo.cells.toArray,.agg hi.cells.toArray] w (EdgeOut 1 w F g n room cs (fun cs' ed=>Unf cs' 2 ed (mkT 2 l a b))):=by
 have hF:=Lib.hid h.lt
 have HKA:=Lib.hid (fun W (hb:Below w.heap.size w W)=>mk_zdd F g n room cs free l lo hi a b W (h.on hb) hfr ht)
 obtain ⟨lt,lp⟩:=lo
 obtain ⟨ht',hp⟩:=hi
 simp only [Edg.cells] at HKA ⊢
 clear h hfr ht
 have H3:Hid (Below w.heap.size w (((w.alloc (.cells #[.int .u8 lt,.int .u32 lp] 48)).alloc (.cells #[.int .u8 ht',.int .u32 hp] 48)).alloc (.cells #[.int .u8 0,.int .u32 0] 48))):=Lib.hid ((((Below.refl _ _).alloc (Nat.le_refl _) _).alloc (by simp) _).alloc (by simp;omega) _)
 obtain ⟨W,hW⟩:∃W,W=(((w.alloc (.cells #[.int .u8 lt,.int .u32 lp] 48)).alloc (.cells #[.int .u8 ht',.int .u32 hp] 48)).alloc (.cells #[.int .u8 0,.int .u32 0] 48)):=⟨_,rfl⟩
 have hB0:Blk W w.heap.size 48 #[.int .u8 lt,.int .u32 lp]:=by rw [hW];exact ((Blk.new w _ _).alloc _).alloc _
 have hB1:Blk W (w.heap.size+1) 48 #[.int .u8 ht',.int .u32 hp]:=by rw [hW];exact (Blk.new_at (by simp) _ _).alloc _
 have hB2:Blk W (w.heap.size+2) 48 #[.int .u8 0,.int .u32 0]:=by rw [hW];exact Blk.new_at (by simp) _ _
 rw [← hW] at H3
 have HWS:Hid (W.heap.size=w.heap.size+3):=Lib.hid (by rw [hW];simp)
 have a0:W.cell? ⟨w.heap.size,0,none⟩=some (.int .u8 lt):=hB0.cell 0
 have a1:W.cell? ⟨w.heap.size,1,none⟩=some (.int .u32 lp):=hB0.cell 1
 have b0:W.cell? ⟨w.heap.size+1,0,none⟩=some (.int .u8 ht'):=hB1.cell 0
 have b1:W.cell? ⟨w.heap.size+1,1,none⟩=some (.int .u32 hp):=hB1.cell 1
 have HB2:=Lib.hid hB2
 have HWW:=Lib.hid hW
 clear hB0 hB1 hB2
 go_enter Tryz.func56,Tryz.ntmps56
 go_wp2_with fail
 rw [← HWW.out]
 clear hW
 refine (HKA.out W H3.out).mono ?_
 clear a0 a1 b0 b1
 rintro e w1 (⟨ed,cs2,free2,rfl,hP,hgr,hT⟩|⟨cs2,free2,rfl,hfull,hgr,hT⟩)
 all_goals
  have hB2:=HB2.out.chg hT.2 (fun hm=>by have:=hF.out _ hm;omega)
  have n0:w1.cell? ⟨w.heap.size+2,0,none⟩=some (.int .u8 0):=hB2.cell 0
  have n1:w1.cell? ⟨w.heap.size+2,1,none⟩=some (.int .u32 0):=hB2.cell 1
  have z0:=hB2.frozen 0
  have z1:=hB2.frozen 1
  have HTT:=Lib.hid hT
  clear hT hB2
 ·have HT:=Lib.hid (And.intro hP hgr)
  clear hP hgr
  obtain ⟨et,ep⟩:=ed
  simp only [Edg.cells]
  go_wp2_with fail
  refine bodyPost_ret (v:= .tuple #[.agg (⟨et,ep⟩:Edg).cells.toArray,.int .u8 0]) ?_ rfl (.inl ⟨⟨et,ep⟩,cs2,free2,rfl,HT.out.1,HT.out.2,?_⟩)
  ·simp [results,Tryz.results56,go_sem,Edg.cells, *]
  ·exact sto_down H3.out hF.out HTT.out (chg2 _ (w.heap.size+2) _ _) (fun k hk=>by have:=HWS.out;simp at hk;omega)
 ·have HT:=Lib.hid (And.intro hfull hgr)
  clear hfull hgr
  simp only [Edg.cells,Edg.nil]
  go_wp2_with fail
  refine bodyPost_ret (v:= .tuple #[.agg Edg.nil.cells.toArray,.int .u8 6]) ?_ rfl (.inr ⟨cs2,free2,rfl,HT.out.1,HT.out.2,?_⟩)
  ·simp [results,Tryz.results56,go_sem,Edg.cells,Edg.nil, *]
  ·exact sto_down H3.out hF.out HTT.out (chg2 _ (w.heap.size+2) _ _) (fun k hk=>by have:=HWS.out;simp at hk;omega)
set_option maxRecDepth 100000 in
set_option maxHeartbeats 4000000 in
theorem cvw_2 (F:List Nat) (g n room:Nat) (cs:List (Option Rec)) (free:List Int) (l:Int) (e:Edg) (T:Dg) (w:World) (h:StoreAt w F g n room cs free) (hfr:FreeOk cs free) (hun:Unf cs 2 e T) (hT:Ft 2 l T∧Gd 2 n T) (hl:0≤l∧l<n) :
  Calls Tryz.prog 102 #[.pointer (some ⟨g,0,none⟩),.int .u8 2,.agg e.cells.toArray,.int .i64 l] w (ViewOut 1 w F g n room cs (fun cs' lo hi=>Unf cs' 2 lo (viewT 2 l T).1∧Unf cs' 2 hi (viewT 2 l T).2)):=by
 have hF:=Lib.hid h.lt
 have HKA:=Lib.hid (fun W (hb:Below w.heap.size w W)=>vw_zdd F g n room cs free l e T W (h.on hb) hfr hun hT hl)
 obtain ⟨t,q⟩:=e
 simp only [Edg.cells] at HKA ⊢
 clear h hfr hun hT
 have H3:Hid (Below w.heap.size w (((w.alloc (.cells #[.int .u8 t,.int .u32 q] 48)).alloc (.cells #[.int .u8 0,.int .u32 0] 48)).alloc (.cells #[.int .u8 0,.int .u32 0] 48))):=Lib.hid ((((Below.refl _ _).alloc (Nat.le_refl _) _).alloc (by simp) _).alloc (by simp;omega) _)
 obtain ⟨W,hW⟩:∃W,W=(((w.alloc (.cells #[.int .u8 t,.int .u32 q] 48)).alloc (.cells #[.int .u8 0,.int .u32 0] 48)).alloc (.cells #[.int .u8 0,.int .u32 0] 48)):=⟨_,rfl⟩
 have hB0:Blk W w.heap.size 48 #[.int .u8 t,.int .u32 q]:=by rw [hW];exact ((Blk.new w _ _).alloc _).alloc _
 have hB1:Blk W (w.heap.size+1) 48 #[.int .u8 0,.int .u32 0]:=by rw [hW];exact (Blk.new_at (by simp) _ _).alloc _
 have hB2:Blk W (w.heap.size+2) 48 #[.int .u8 0,.int .u32 0]:=by rw [hW];exact Blk.new_at (by simp) _ _
 rw [← hW] at H3
 have HWS:Hid (W.heap.size=w.heap.size+3):=Lib.hid (by rw [hW];simp)
 have a0:W.cell? ⟨w.heap.size,0,none⟩=some (.int .u8 t):=hB0.cell 0
 have a1:W.cell? ⟨w.heap.size,1,none⟩=some (.int .u32 q):=hB0.cell 1
 have HB12:=Lib.hid (And.intro hB1 hB2)
 have HWW:=Lib.hid hW
 clear hB0 hB1 hB2
 go_enter Tryz.func102,Tryz.ntmps102
 go_wp2_with fail
 rw [← HWW.out]
 clear hW
 refine (HKA.out W H3.out).mono ?_
 clear a0 a1
 rintro e w1 (⟨lo,hi,cs2,free2,rfl,hP,hgr,hT⟩|⟨cs2,free2,rfl,hfull,hgr,hT⟩)
 all_goals
  have hB1:=HB12.out.1.chg hT.2 (fun hm=>by have:=hF.out _ hm;omega)
  have hB2:=HB12.out.2.chg hT.2 (fun hm=>by have:=hF.out _ hm;omega)
  have n0:w1.cell? ⟨w.heap.size+2,0,none⟩=some (.int .u8 0):=hB2.cell 0
  have n1:w1.cell? ⟨w.heap.size+2,1,none⟩=some (.int .u32 0):=hB2.cell 1
  have b0:w1.cell? ⟨w.heap.size+1,0,none⟩=some (.int .u8 0):=hB1.cell 0
  have b1:w1.cell? ⟨w.heap.size+1,1,none⟩=some (.int .u32 0):=hB1.cell 1
  have z0:=hB2.frozen 0
  have z1:=hB2.frozen 1
  have y0:=hB1.frozen 0
  have y1:=hB1.frozen 1
  have HTT:=Lib.hid hT
  have HB:=Lib.hid (And.intro hB1 hB2)
  clear hT hB1 hB2
 ·have HT:=Lib.hid (And.intro hP hgr)
  clear hP hgr
  obtain ⟨at_,ap⟩:=lo
  obtain ⟨bt,bp⟩:=hi
  simp only [Edg.cells]
  go_wp2_with fail
  refine post_gen (Boxes w.heap.size w1 (.int .u8 at_) (.int .u32 ap) (.int .u8 bt) (.int .u32 bp)) (by first |exact (((Boxes.refl HB.out.1 HB.out.2).lo _ _).hi _ _).drew|exact (((Boxes.refl HB.out.1 HB.out.2).lo _ _).hi _ _)) ?_
  rintro V2 ⟨hc2,hk1,hk2⟩
  clear b0 b1 n0 n1 z0 z1 y0 y1
  have b0:V2.cell? ⟨w.heap.size+1,0,none⟩=some (.int .u8 at_):=hk1.cell 0
  have b1:V2.cell? ⟨w.heap.size+1,1,none⟩=some (.int .u32 ap):=hk1.cell 1
  have n0:V2.cell? ⟨w.heap.size+2,0,none⟩=some (.int .u8 bt):=hk2.cell 0
  have n1:V2.cell? ⟨w.heap.size+2,1,none⟩=some (.int .u32 bp):=hk2.cell 1
  clear hk1 hk2
  refine bodyPost_ret (v:= .tuple #[.agg (⟨at_,ap⟩:Edg).cells.toArray,.agg (⟨bt,bp⟩:Edg).cells.toArray,.int .u8 0]) ?_ rfl (.inl ⟨⟨at_,ap⟩,⟨bt,bp⟩,cs2,free2,rfl,HT.out.1,HT.out.2,?_⟩)
  ·simp [results,Tryz.results102,go_sem,Edg.cells,Edg.nil, *]
  ·exact sto_down (G:=[w.heap.size+1,w.heap.size+2]) H3.out hF.out HTT.out hc2 (fun k hk=>by have:=HWS.out;simp at hk;omega)
 ·have HT:=Lib.hid (And.intro hfull hgr)
  clear hfull hgr
  simp only [Edg.cells,Edg.nil]
  go_wp2_with fail
  refine post_gen (Boxes w.heap.size w1 (.int .u8 0) (.int .u32 0) (.int .u8 0) (.int .u32 0)) (by first |exact (((Boxes.refl HB.out.1 HB.out.2).lo _ _).hi _ _).drew|exact (((Boxes.refl HB.out.1 HB.out.2).lo _ _).hi _ _)) ?_
  rintro V2 ⟨hc2,hk1,hk2⟩
  clear b0 b1 n0 n1 z0 z1 y0 y1
  have b0:V2.cell? ⟨w.heap.size+1,0,none⟩=some (.int .u8 0):=hk1.cell 0
  have b1:V2.cell? ⟨w.heap.size+1,1,none⟩=some (.int .u32 0):=hk1.cell 1
  have n0:V2.cell? ⟨w.heap.size+2,0,none⟩=some (.int .u8 0):=hk2.cell 0
  have n1:V2.cell? ⟨w.heap.size+2,1,none⟩=some (.int .u32 0):=hk2.cell 1
  clear hk1 hk2
  refine bodyPost_ret (v:= .tuple #[.agg Edg.nil.cells.toArray,.agg Edg.nil.cells.toArray,.int .u8 6]) ?_ rfl (.inr ⟨cs2,free2,rfl,HT.out.1,HT.out.2,?_⟩)
  ·simp [results,Tryz.results102,go_sem,Edg.cells,Edg.nil, *]
  ·exact sto_down (G:=[w.heap.size+1,w.heap.size+2]) H3.out hF.out HTT.out hc2 (fun k hk=>by have:=HWS.out;simp at hk;omega)
set_option maxRecDepth 100000 in
set_option maxHeartbeats 4000000 in
theorem cmk_3 (F:List Nat) (g n room:Nat) (cs:List (Option Rec)) (free:List Int) (l:Int) (lo hi:Edg) (a b:Dg) (w:World) (h:StoreAt w F g n room cs free) (hfr:FreeOk cs free) (ht:Two cs 3 n l lo hi a b) :
  Calls Tryz.prog 56 #[.pointer (some ⟨g,0,none⟩),.int .u8 3,.int .i64 l,.agg lo.cells.toArray,.agg hi.cells.toArray] w (EdgeOut 1 w F g n room cs (fun cs' ed=>Unf cs' 3 ed (mkT 3 l a b))):=by
 have hF:=Lib.hid h.lt
 have HKA:=Lib.hid (fun W (hb:Below w.heap.size w W)=>mk_cbdd F g n room cs free l lo hi a b W (h.on hb) hfr ht)
 obtain ⟨lt,lp⟩:=lo
 obtain ⟨ht',hp⟩:=hi
 simp only [Edg.cells] at HKA ⊢
 clear h hfr ht
 have H3:Hid (Below w.heap.size w (((w.alloc (.cells #[.int .u8 lt,.int .u32 lp] 48)).alloc (.cells #[.int .u8 ht',.int .u32 hp] 48)).alloc (.cells #[.int .u8 0,.int .u32 0] 48))):=Lib.hid ((((Below.refl _ _).alloc (Nat.le_refl _) _).alloc (by simp) _).alloc (by simp;omega) _)
 obtain ⟨W,hW⟩:∃W,W=(((w.alloc (.cells #[.int .u8 lt,.int .u32 lp] 48)).alloc (.cells #[.int .u8 ht',.int .u32 hp] 48)).alloc (.cells #[.int .u8 0,.int .u32 0] 48)):=⟨_,rfl⟩
 have hB0:Blk W w.heap.size 48 #[.int .u8 lt,.int .u32 lp]:=by rw [hW];exact ((Blk.new w _ _).alloc _).alloc _
 have hB1:Blk W (w.heap.size+1) 48 #[.int .u8 ht',.int .u32 hp]:=by rw [hW];exact (Blk.new_at (by simp) _ _).alloc _
 have hB2:Blk W (w.heap.size+2) 48 #[.int .u8 0,.int .u32 0]:=by rw [hW];exact Blk.new_at (by simp) _ _
 rw [← hW] at H3
 have HWS:Hid (W.heap.size=w.heap.size+3):=Lib.hid (by rw [hW];simp)
 have a0:W.cell? ⟨w.heap.size,0,none⟩=some (.int .u8 lt):=hB0.cell 0
 have a1:W.cell? ⟨w.heap.size,1,none⟩=some (.int .u32 lp):=hB0.cell 1
 have b0:W.cell? ⟨w.heap.size+1,0,none⟩=some (.int .u8 ht'):=hB1.cell 0
 have b1:W.cell? ⟨w.heap.size+1,1,none⟩=some (.int .u32 hp):=hB1.cell 1
 have HB2:=Lib.hid hB2
 have HWW:=Lib.hid hW
 clear hB0 hB1 hB2
 go_enter Tryz.func56,Tryz.ntmps56
 go_wp2_with fail
 rw [← HWW.out]
 clear hW
 refine (HKA.out W H3.out).mono ?_
 clear a0 a1 b0 b1
 rintro e w1 (⟨ed,cs2,free2,rfl,hP,hgr,hT⟩|⟨cs2,free2,rfl,hfull,hgr,hT⟩)
 all_goals
  have hB2:=HB2.out.chg hT.2 (fun hm=>by have:=hF.out _ hm;omega)
  have n0:w1.cell? ⟨w.heap.size+2,0,none⟩=some (.int .u8 0):=hB2.cell 0
  have n1:w1.cell? ⟨w.heap.size+2,1,none⟩=some (.int .u32 0):=hB2.cell 1
  have z0:=hB2.frozen 0
  have z1:=hB2.frozen 1
  have HTT:=Lib.hid hT
  clear hT hB2
 ·have HT:=Lib.hid (And.intro hP hgr)
  clear hP hgr
  obtain ⟨et,ep⟩:=ed
  simp only [Edg.cells]
  go_wp2_with fail
  refine bodyPost_ret (v:= .tuple #[.agg (⟨et,ep⟩:Edg).cells.toArray,.int .u8 0]) ?_ rfl (.inl ⟨⟨et,ep⟩,cs2,free2,rfl,HT.out.1,HT.out.2,?_⟩)
  ·simp [results,Tryz.results56,go_sem,Edg.cells, *]
  ·exact sto_down H3.out hF.out HTT.out (chg2 _ (w.heap.size+2) _ _) (fun k hk=>by have:=HWS.out;simp at hk;omega)
 ·have HT:=Lib.hid (And.intro hfull hgr)
  clear hfull hgr
  simp only [Edg.cells,Edg.nil]
  go_wp2_with fail
  refine bodyPost_ret (v:= .tuple #[.agg Edg.nil.cells.toArray,.int .u8 6]) ?_ rfl (.inr ⟨cs2,free2,rfl,HT.out.1,HT.out.2,?_⟩)
  ·simp [results,Tryz.results56,go_sem,Edg.cells,Edg.nil, *]
  ·exact sto_down H3.out hF.out HTT.out (chg2 _ (w.heap.size+2) _ _) (fun k hk=>by have:=HWS.out;simp at hk;omega)
set_option maxRecDepth 100000 in
set_option maxHeartbeats 4000000 in
theorem cvw_3 (F:List Nat) (g n room:Nat) (cs:List (Option Rec)) (free:List Int) (l:Int) (e:Edg) (T:Dg) (w:World) (h:StoreAt w F g n room cs free) (hfr:FreeOk cs free) (hun:Unf cs 3 e T) (hT:Ft 3 l T∧Gd 3 n T) (hl:0≤l∧l<n) :
  Calls Tryz.prog 102 #[.pointer (some ⟨g,0,none⟩),.int .u8 3,.agg e.cells.toArray,.int .i64 l] w (ViewOut 1 w F g n room cs (fun cs' lo hi=>Unf cs' 3 lo (viewT 3 l T).1∧Unf cs' 3 hi (viewT 3 l T).2)):=by
 have hF:=Lib.hid h.lt
 have HKA:=Lib.hid (fun W (hb:Below w.heap.size w W)=>vw_cbdd F g n room cs free l e T W (h.on hb) hfr hun hT hl)
 obtain ⟨t,q⟩:=e
 simp only [Edg.cells] at HKA ⊢
 clear h hfr hun hT
 have H3:Hid (Below w.heap.size w (((w.alloc (.cells #[.int .u8 t,.int .u32 q] 48)).alloc (.cells #[.int .u8 0,.int .u32 0] 48)).alloc (.cells #[.int .u8 0,.int .u32 0] 48))):=Lib.hid ((((Below.refl _ _).alloc (Nat.le_refl _) _).alloc (by simp) _).alloc (by simp;omega) _)
 obtain ⟨W,hW⟩:∃W,W=(((w.alloc (.cells #[.int .u8 t,.int .u32 q] 48)).alloc (.cells #[.int .u8 0,.int .u32 0] 48)).alloc (.cells #[.int .u8 0,.int .u32 0] 48)):=⟨_,rfl⟩
 have hB0:Blk W w.heap.size 48 #[.int .u8 t,.int .u32 q]:=by rw [hW];exact ((Blk.new w _ _).alloc _).alloc _
 have hB1:Blk W (w.heap.size+1) 48 #[.int .u8 0,.int .u32 0]:=by rw [hW];exact (Blk.new_at (by simp) _ _).alloc _
 have hB2:Blk W (w.heap.size+2) 48 #[.int .u8 0,.int .u32 0]:=by rw [hW];exact Blk.new_at (by simp) _ _
 rw [← hW] at H3
 have HWS:Hid (W.heap.size=w.heap.size+3):=Lib.hid (by rw [hW];simp)
 have a0:W.cell? ⟨w.heap.size,0,none⟩=some (.int .u8 t):=hB0.cell 0
 have a1:W.cell? ⟨w.heap.size,1,none⟩=some (.int .u32 q):=hB0.cell 1
 have HB12:=Lib.hid (And.intro hB1 hB2)
 have HWW:=Lib.hid hW
 clear hB0 hB1 hB2
 go_enter Tryz.func102,Tryz.ntmps102
 go_wp2_with fail
 rw [← HWW.out]
 clear hW
 refine (HKA.out W H3.out).mono ?_
 clear a0 a1
 rintro e w1 (⟨lo,hi,cs2,free2,rfl,hP,hgr,hT⟩|⟨cs2,free2,rfl,hfull,hgr,hT⟩)
 all_goals
  have hB1:=HB12.out.1.chg hT.2 (fun hm=>by have:=hF.out _ hm;omega)
  have hB2:=HB12.out.2.chg hT.2 (fun hm=>by have:=hF.out _ hm;omega)
  have n0:w1.cell? ⟨w.heap.size+2,0,none⟩=some (.int .u8 0):=hB2.cell 0
  have n1:w1.cell? ⟨w.heap.size+2,1,none⟩=some (.int .u32 0):=hB2.cell 1
  have b0:w1.cell? ⟨w.heap.size+1,0,none⟩=some (.int .u8 0):=hB1.cell 0
  have b1:w1.cell? ⟨w.heap.size+1,1,none⟩=some (.int .u32 0):=hB1.cell 1
  have z0:=hB2.frozen 0
  have z1:=hB2.frozen 1
  have y0:=hB1.frozen 0
  have y1:=hB1.frozen 1
  have HTT:=Lib.hid hT
  have HB:=Lib.hid (And.intro hB1 hB2)
  clear hT hB1 hB2
 ·have HT:=Lib.hid (And.intro hP hgr)
  clear hP hgr
  obtain ⟨at_,ap⟩:=lo
  obtain ⟨bt,bp⟩:=hi
  simp only [Edg.cells]
  go_wp2_with fail
  refine post_gen (Boxes w.heap.size w1 (.int .u8 at_) (.int .u32 ap) (.int .u8 bt) (.int .u32 bp)) (by first |exact (((Boxes.refl HB.out.1 HB.out.2).lo _ _).hi _ _).drew|exact (((Boxes.refl HB.out.1 HB.out.2).lo _ _).hi _ _)) ?_
  rintro V2 ⟨hc2,hk1,hk2⟩
  clear b0 b1 n0 n1 z0 z1 y0 y1
  have b0:V2.cell? ⟨w.heap.size+1,0,none⟩=some (.int .u8 at_):=hk1.cell 0
  have b1:V2.cell? ⟨w.heap.size+1,1,none⟩=some (.int .u32 ap):=hk1.cell 1
  have n0:V2.cell? ⟨w.heap.size+2,0,none⟩=some (.int .u8 bt):=hk2.cell 0
  have n1:V2.cell? ⟨w.heap.size+2,1,none⟩=some (.int .u32 bp):=hk2.cell 1
  clear hk1 hk2
  refine bodyPost_ret (v:= .tuple #[.agg (⟨at_,ap⟩:Edg).cells.toArray,.agg (⟨bt,bp⟩:Edg).cells.toArray,.int .u8 0]) ?_ rfl (.inl ⟨⟨at_,ap⟩,⟨bt,bp⟩,cs2,free2,rfl,HT.out.1,HT.out.2,?_⟩)
  ·simp [results,Tryz.results102,go_sem,Edg.cells,Edg.nil, *]
  ·exact sto_down (G:=[w.heap.size+1,w.heap.size+2]) H3.out hF.out HTT.out hc2 (fun k hk=>by have:=HWS.out;simp at hk;omega)
 ·have HT:=Lib.hid (And.intro hfull hgr)
  clear hfull hgr
  simp only [Edg.cells,Edg.nil]
  go_wp2_with fail
  refine post_gen (Boxes w.heap.size w1 (.int .u8 0) (.int .u32 0) (.int .u8 0) (.int .u32 0)) (by first |exact (((Boxes.refl HB.out.1 HB.out.2).lo _ _).hi _ _).drew|exact (((Boxes.refl HB.out.1 HB.out.2).lo _ _).hi _ _)) ?_
  rintro V2 ⟨hc2,hk1,hk2⟩
  clear b0 b1 n0 n1 z0 z1 y0 y1
  have b0:V2.cell? ⟨w.heap.size+1,0,none⟩=some (.int .u8 0):=hk1.cell 0
  have b1:V2.cell? ⟨w.heap.size+1,1,none⟩=some (.int .u32 0):=hk1.cell 1
  have n0:V2.cell? ⟨w.heap.size+2,0,none⟩=some (.int .u8 0):=hk2.cell 0
  have n1:V2.cell? ⟨w.heap.size+2,1,none⟩=some (.int .u32 0):=hk2.cell 1
  clear hk1 hk2
  refine bodyPost_ret (v:= .tuple #[.agg Edg.nil.cells.toArray,.agg Edg.nil.cells.toArray,.int .u8 6]) ?_ rfl (.inr ⟨cs2,free2,rfl,HT.out.1,HT.out.2,?_⟩)
  ·simp [results,Tryz.results102,go_sem,Edg.cells,Edg.nil, *]
  ·exact sto_down (G:=[w.heap.size+1,w.heap.size+2]) H3.out hF.out HTT.out hc2 (fun k hk=>by have:=HWS.out;simp at hk;omega)
set_option maxRecDepth 100000 in
set_option maxHeartbeats 4000000 in
theorem cmk_4 (F:List Nat) (g n room:Nat) (cs:List (Option Rec)) (free:List Int) (l:Int) (lo hi:Edg) (a b:Dg) (w:World) (h:StoreAt w F g n room cs free) (hfr:FreeOk cs free) (ht:Two cs 4 n l lo hi a b) :
  Calls Tryz.prog 56 #[.pointer (some ⟨g,0,none⟩),.int .u8 4,.int .i64 l,.agg lo.cells.toArray,.agg hi.cells.toArray] w (EdgeOut 1 w F g n room cs (fun cs' ed=>Unf cs' 4 ed (mkT 4 l a b))):=by
 have hF:=Lib.hid h.lt
 have HKA:=Lib.hid (fun W (hb:Below w.heap.size w W)=>mk_czdd F g n room cs free l lo hi a b W (h.on hb) hfr ht)
 obtain ⟨lt,lp⟩:=lo
 obtain ⟨ht',hp⟩:=hi
 simp only [Edg.cells] at HKA ⊢
 clear h hfr ht
 have H3:Hid (Below w.heap.size w (((w.alloc (.cells #[.int .u8 lt,.int .u32 lp] 48)).alloc (.cells #[.int .u8 ht',.int .u32 hp] 48)).alloc (.cells #[.int .u8 0,.int .u32 0] 48))):=Lib.hid ((((Below.refl _ _).alloc (Nat.le_refl _) _).alloc (by simp) _).alloc (by simp;omega) _)
 obtain ⟨W,hW⟩:∃W,W=(((w.alloc (.cells #[.int .u8 lt,.int .u32 lp] 48)).alloc (.cells #[.int .u8 ht',.int .u32 hp] 48)).alloc (.cells #[.int .u8 0,.int .u32 0] 48)):=⟨_,rfl⟩
 have hB0:Blk W w.heap.size 48 #[.int .u8 lt,.int .u32 lp]:=by rw [hW];exact ((Blk.new w _ _).alloc _).alloc _
 have hB1:Blk W (w.heap.size+1) 48 #[.int .u8 ht',.int .u32 hp]:=by rw [hW];exact (Blk.new_at (by simp) _ _).alloc _
 have hB2:Blk W (w.heap.size+2) 48 #[.int .u8 0,.int .u32 0]:=by rw [hW];exact Blk.new_at (by simp) _ _
 rw [← hW] at H3
 have HWS:Hid (W.heap.size=w.heap.size+3):=Lib.hid (by rw [hW];simp)
 have a0:W.cell? ⟨w.heap.size,0,none⟩=some (.int .u8 lt):=hB0.cell 0
 have a1:W.cell? ⟨w.heap.size,1,none⟩=some (.int .u32 lp):=hB0.cell 1
 have b0:W.cell? ⟨w.heap.size+1,0,none⟩=some (.int .u8 ht'):=hB1.cell 0
 have b1:W.cell? ⟨w.heap.size+1,1,none⟩=some (.int .u32 hp):=hB1.cell 1
 have HB2:=Lib.hid hB2
 have HWW:=Lib.hid hW
 clear hB0 hB1 hB2
 go_enter Tryz.func56,Tryz.ntmps56
 go_wp2_with fail
 rw [← HWW.out]
 clear hW
 refine (HKA.out W H3.out).mono ?_
 clear a0 a1 b0 b1
 rintro e w1 (⟨ed,cs2,free2,rfl,hP,hgr,hT⟩|⟨cs2,free2,rfl,hfull,hgr,hT⟩)
 all_goals
  have hB2:=HB2.out.chg hT.2 (fun hm=>by have:=hF.out _ hm;omega)
  have n0:w1.cell? ⟨w.heap.size+2,0,none⟩=some (.int .u8 0):=hB2.cell 0
  have n1:w1.cell? ⟨w.heap.size+2,1,none⟩=some (.int .u32 0):=hB2.cell 1
  have z0:=hB2.frozen 0
  have z1:=hB2.frozen 1
  have HTT:=Lib.hid hT
  clear hT hB2
 ·have HT:=Lib.hid (And.intro hP hgr)
  clear hP hgr
  obtain ⟨et,ep⟩:=ed
  simp only [Edg.cells]
  go_wp2_with fail
  refine bodyPost_ret (v:= .tuple #[.agg (⟨et,ep⟩:Edg).cells.toArray,.int .u8 0]) ?_ rfl (.inl ⟨⟨et,ep⟩,cs2,free2,rfl,HT.out.1,HT.out.2,?_⟩)
  ·simp [results,Tryz.results56,go_sem,Edg.cells, *]
  ·exact sto_down H3.out hF.out HTT.out (chg2 _ (w.heap.size+2) _ _) (fun k hk=>by have:=HWS.out;simp at hk;omega)
 ·have HT:=Lib.hid (And.intro hfull hgr)
  clear hfull hgr
  simp only [Edg.cells,Edg.nil]
  go_wp2_with fail
  refine bodyPost_ret (v:= .tuple #[.agg Edg.nil.cells.toArray,.int .u8 6]) ?_ rfl (.inr ⟨cs2,free2,rfl,HT.out.1,HT.out.2,?_⟩)
  ·simp [results,Tryz.results56,go_sem,Edg.cells,Edg.nil, *]
  ·exact sto_down H3.out hF.out HTT.out (chg2 _ (w.heap.size+2) _ _) (fun k hk=>by have:=HWS.out;simp at hk;omega)
set_option maxRecDepth 100000 in
set_option maxHeartbeats 4000000 in
theorem cvw_4 (F:List Nat) (g n room:Nat) (cs:List (Option Rec)) (free:List Int) (l:Int) (e:Edg) (T:Dg) (w:World) (h:StoreAt w F g n room cs free) (hfr:FreeOk cs free) (hun:Unf cs 4 e T) (hT:Ft 4 l T∧Gd 4 n T) (hl:0≤l∧l<n) :
  Calls Tryz.prog 102 #[.pointer (some ⟨g,0,none⟩),.int .u8 4,.agg e.cells.toArray,.int .i64 l] w (ViewOut 1 w F g n room cs (fun cs' lo hi=>Unf cs' 4 lo (viewT 4 l T).1∧Unf cs' 4 hi (viewT 4 l T).2)):=by
 have hF:=Lib.hid h.lt
 have HKA:=Lib.hid (fun W (hb:Below w.heap.size w W)=>vw_czdd F g n room cs free l e T W (h.on hb) hfr hun hT hl)
 obtain ⟨t,q⟩:=e
 simp only [Edg.cells] at HKA ⊢
 clear h hfr hun hT
 have H3:Hid (Below w.heap.size w (((w.alloc (.cells #[.int .u8 t,.int .u32 q] 48)).alloc (.cells #[.int .u8 0,.int .u32 0] 48)).alloc (.cells #[.int .u8 0,.int .u32 0] 48))):=Lib.hid ((((Below.refl _ _).alloc (Nat.le_refl _) _).alloc (by simp) _).alloc (by simp;omega) _)
 obtain ⟨W,hW⟩:∃W,W=(((w.alloc (.cells #[.int .u8 t,.int .u32 q] 48)).alloc (.cells #[.int .u8 0,.int .u32 0] 48)).alloc (.cells #[.int .u8 0,.int .u32 0] 48)):=⟨_,rfl⟩
 have hB0:Blk W w.heap.size 48 #[.int .u8 t,.int .u32 q]:=by rw [hW];exact ((Blk.new w _ _).alloc _).alloc _
 have hB1:Blk W (w.heap.size+1) 48 #[.int .u8 0,.int .u32 0]:=by rw [hW];exact (Blk.new_at (by simp) _ _).alloc _
 have hB2:Blk W (w.heap.size+2) 48 #[.int .u8 0,.int .u32 0]:=by rw [hW];exact Blk.new_at (by simp) _ _
 rw [← hW] at H3
 have HWS:Hid (W.heap.size=w.heap.size+3):=Lib.hid (by rw [hW];simp)
 have a0:W.cell? ⟨w.heap.size,0,none⟩=some (.int .u8 t):=hB0.cell 0
 have a1:W.cell? ⟨w.heap.size,1,none⟩=some (.int .u32 q):=hB0.cell 1
 have HB12:=Lib.hid (And.intro hB1 hB2)
 have HWW:=Lib.hid hW
 clear hB0 hB1 hB2
 go_enter Tryz.func102,Tryz.ntmps102
 go_wp2_with fail
 rw [← HWW.out]
 clear hW
 refine (HKA.out W H3.out).mono ?_
 clear a0 a1
 rintro e w1 (⟨lo,hi,cs2,free2,rfl,hP,hgr,hT⟩|⟨cs2,free2,rfl,hfull,hgr,hT⟩)
 all_goals
  have hB1:=HB12.out.1.chg hT.2 (fun hm=>by have:=hF.out _ hm;omega)
  have hB2:=HB12.out.2.chg hT.2 (fun hm=>by have:=hF.out _ hm;omega)
  have n0:w1.cell? ⟨w.heap.size+2,0,none⟩=some (.int .u8 0):=hB2.cell 0
  have n1:w1.cell? ⟨w.heap.size+2,1,none⟩=some (.int .u32 0):=hB2.cell 1
  have b0:w1.cell? ⟨w.heap.size+1,0,none⟩=some (.int .u8 0):=hB1.cell 0
  have b1:w1.cell? ⟨w.heap.size+1,1,none⟩=some (.int .u32 0):=hB1.cell 1
  have z0:=hB2.frozen 0
  have z1:=hB2.frozen 1
  have y0:=hB1.frozen 0
  have y1:=hB1.frozen 1
  have HTT:=Lib.hid hT
  have HB:=Lib.hid (And.intro hB1 hB2)
  clear hT hB1 hB2
 ·have HT:=Lib.hid (And.intro hP hgr)
  clear hP hgr
  obtain ⟨at_,ap⟩:=lo
  obtain ⟨bt,bp⟩:=hi
  simp only [Edg.cells]
  go_wp2_with fail
  refine post_gen (Boxes w.heap.size w1 (.int .u8 at_) (.int .u32 ap) (.int .u8 bt) (.int .u32 bp)) (by first |exact (((Boxes.refl HB.out.1 HB.out.2).lo _ _).hi _ _).drew|exact (((Boxes.refl HB.out.1 HB.out.2).lo _ _).hi _ _)) ?_
  rintro V2 ⟨hc2,hk1,hk2⟩
  clear b0 b1 n0 n1 z0 z1 y0 y1
  have b0:V2.cell? ⟨w.heap.size+1,0,none⟩=some (.int .u8 at_):=hk1.cell 0
  have b1:V2.cell? ⟨w.heap.size+1,1,none⟩=some (.int .u32 ap):=hk1.cell 1
  have n0:V2.cell? ⟨w.heap.size+2,0,none⟩=some (.int .u8 bt):=hk2.cell 0
  have n1:V2.cell? ⟨w.heap.size+2,1,none⟩=some (.int .u32 bp):=hk2.cell 1
  clear hk1 hk2
  refine bodyPost_ret (v:= .tuple #[.agg (⟨at_,ap⟩:Edg).cells.toArray,.agg (⟨bt,bp⟩:Edg).cells.toArray,.int .u8 0]) ?_ rfl (.inl ⟨⟨at_,ap⟩,⟨bt,bp⟩,cs2,free2,rfl,HT.out.1,HT.out.2,?_⟩)
  ·simp [results,Tryz.results102,go_sem,Edg.cells,Edg.nil, *]
  ·exact sto_down (G:=[w.heap.size+1,w.heap.size+2]) H3.out hF.out HTT.out hc2 (fun k hk=>by have:=HWS.out;simp at hk;omega)
 ·have HT:=Lib.hid (And.intro hfull hgr)
  clear hfull hgr
  simp only [Edg.cells,Edg.nil]
  go_wp2_with fail
  refine post_gen (Boxes w.heap.size w1 (.int .u8 0) (.int .u32 0) (.int .u8 0) (.int .u32 0)) (by first |exact (((Boxes.refl HB.out.1 HB.out.2).lo _ _).hi _ _).drew|exact (((Boxes.refl HB.out.1 HB.out.2).lo _ _).hi _ _)) ?_
  rintro V2 ⟨hc2,hk1,hk2⟩
  clear b0 b1 n0 n1 z0 z1 y0 y1
  have b0:V2.cell? ⟨w.heap.size+1,0,none⟩=some (.int .u8 0):=hk1.cell 0
  have b1:V2.cell? ⟨w.heap.size+1,1,none⟩=some (.int .u32 0):=hk1.cell 1
  have n0:V2.cell? ⟨w.heap.size+2,0,none⟩=some (.int .u8 0):=hk2.cell 0
  have n1:V2.cell? ⟨w.heap.size+2,1,none⟩=some (.int .u32 0):=hk2.cell 1
  clear hk1 hk2
  refine bodyPost_ret (v:= .tuple #[.agg Edg.nil.cells.toArray,.agg Edg.nil.cells.toArray,.int .u8 6]) ?_ rfl (.inr ⟨cs2,free2,rfl,HT.out.1,HT.out.2,?_⟩)
  ·simp [results,Tryz.results102,go_sem,Edg.cells,Edg.nil, *]
  ·exact sto_down (G:=[w.heap.size+1,w.heap.size+2]) H3.out hF.out HTT.out hc2 (fun k hk=>by have:=HWS.out;simp at hk;omega)
set_option maxRecDepth 100000 in
set_option maxHeartbeats 4000000 in
theorem cmk_5 (F:List Nat) (g n room:Nat) (cs:List (Option Rec)) (free:List Int) (l:Int) (lo hi:Edg) (a b:Dg) (w:World) (h:StoreAt w F g n room cs free) (hfr:FreeOk cs free) (ht:Two cs 5 n l lo hi a b) :
  Calls Tryz.prog 56 #[.pointer (some ⟨g,0,none⟩),.int .u8 5,.int .i64 l,.agg lo.cells.toArray,.agg hi.cells.toArray] w (EdgeOut 1 w F g n room cs (fun cs' ed=>Unf cs' 5 ed (mkT 5 l a b))):=by
 have hF:=Lib.hid h.lt
 have HKA:=Lib.hid (fun W (hb:Below w.heap.size w W)=>mk_tbdd F g n room cs free l lo hi a b W (h.on hb) hfr ht)
 obtain ⟨lt,lp⟩:=lo
 obtain ⟨ht',hp⟩:=hi
 simp only [Edg.cells] at HKA ⊢
 clear h hfr ht
 have H3:Hid (Below w.heap.size w (((w.alloc (.cells #[.int .u8 lt,.int .u32 lp] 48)).alloc (.cells #[.int .u8 ht',.int .u32 hp] 48)).alloc (.cells #[.int .u8 0,.int .u32 0] 48))):=Lib.hid ((((Below.refl _ _).alloc (Nat.le_refl _) _).alloc (by simp) _).alloc (by simp;omega) _)
 obtain ⟨W,hW⟩:∃W,W=(((w.alloc (.cells #[.int .u8 lt,.int .u32 lp] 48)).alloc (.cells #[.int .u8 ht',.int .u32 hp] 48)).alloc (.cells #[.int .u8 0,.int .u32 0] 48)):=⟨_,rfl⟩
 have hB0:Blk W w.heap.size 48 #[.int .u8 lt,.int .u32 lp]:=by rw [hW];exact ((Blk.new w _ _).alloc _).alloc _
 have hB1:Blk W (w.heap.size+1) 48 #[.int .u8 ht',.int .u32 hp]:=by rw [hW];exact (Blk.new_at (by simp) _ _).alloc _
 have hB2:Blk W (w.heap.size+2) 48 #[.int .u8 0,.int .u32 0]:=by rw [hW];exact Blk.new_at (by simp) _ _
 rw [← hW] at H3
 have HWS:Hid (W.heap.size=w.heap.size+3):=Lib.hid (by rw [hW];simp)
 have a0:W.cell? ⟨w.heap.size,0,none⟩=some (.int .u8 lt):=hB0.cell 0
 have a1:W.cell? ⟨w.heap.size,1,none⟩=some (.int .u32 lp):=hB0.cell 1
 have b0:W.cell? ⟨w.heap.size+1,0,none⟩=some (.int .u8 ht'):=hB1.cell 0
 have b1:W.cell? ⟨w.heap.size+1,1,none⟩=some (.int .u32 hp):=hB1.cell 1
 have HB2:=Lib.hid hB2
 have HWW:=Lib.hid hW
 clear hB0 hB1 hB2
 go_enter Tryz.func56,Tryz.ntmps56
 go_wp2_with fail
 rw [← HWW.out]
 clear hW
 refine (HKA.out W H3.out).mono ?_
 clear a0 a1 b0 b1
 rintro e w1 (⟨ed,cs2,free2,rfl,hP,hgr,hT⟩|⟨cs2,free2,rfl,hfull,hgr,hT⟩)
 all_goals
  have hB2:=HB2.out.chg hT.2 (fun hm=>by have:=hF.out _ hm;omega)
  have n0:w1.cell? ⟨w.heap.size+2,0,none⟩=some (.int .u8 0):=hB2.cell 0
  have n1:w1.cell? ⟨w.heap.size+2,1,none⟩=some (.int .u32 0):=hB2.cell 1
  have z0:=hB2.frozen 0
  have z1:=hB2.frozen 1
  have HTT:=Lib.hid hT
  clear hT hB2
 ·have HT:=Lib.hid (And.intro hP hgr)
  clear hP hgr
  obtain ⟨et,ep⟩:=ed
  simp only [Edg.cells]
  go_wp2_with fail
  refine bodyPost_ret (v:= .tuple #[.agg (⟨et,ep⟩:Edg).cells.toArray,.int .u8 0]) ?_ rfl (.inl ⟨⟨et,ep⟩,cs2,free2,rfl,HT.out.1,HT.out.2,?_⟩)
  ·simp [results,Tryz.results56,go_sem,Edg.cells, *]
  ·exact sto_down H3.out hF.out HTT.out (chg2 _ (w.heap.size+2) _ _) (fun k hk=>by have:=HWS.out;simp at hk;omega)
 ·have HT:=Lib.hid (And.intro hfull hgr)
  clear hfull hgr
  simp only [Edg.cells,Edg.nil]
  go_wp2_with fail
  refine bodyPost_ret (v:= .tuple #[.agg Edg.nil.cells.toArray,.int .u8 6]) ?_ rfl (.inr ⟨cs2,free2,rfl,HT.out.1,HT.out.2,?_⟩)
  ·simp [results,Tryz.results56,go_sem,Edg.cells,Edg.nil, *]
  ·exact sto_down H3.out hF.out HTT.out (chg2 _ (w.heap.size+2) _ _) (fun k hk=>by have:=HWS.out;simp at hk;omega)
set_option maxRecDepth 100000 in
set_option maxHeartbeats 4000000 in
theorem cvw_5 (F:List Nat) (g n room:Nat) (cs:List (Option Rec)) (free:List Int) (l:Int) (e:Edg) (T:Dg) (w:World) (h:StoreAt w F g n room cs free) (hfr:FreeOk cs free) (hun:Unf cs 5 e T) (hT:Ft 5 l T∧Gd 5 n T) (hl:0≤l∧l<n) :
  Calls Tryz.prog 102 #[.pointer (some ⟨g,0,none⟩),.int .u8 5,.agg e.cells.toArray,.int .i64 l] w (ViewOut 1 w F g n room cs (fun cs' lo hi=>Unf cs' 5 lo (viewT 5 l T).1∧Unf cs' 5 hi (viewT 5 l T).2)):=by
 have hF:=Lib.hid h.lt
 have HKA:=Lib.hid (fun W (hb:Below w.heap.size w W)=>vw_tbdd F g n room cs free l e T W (h.on hb) hfr hun hT hl)
 obtain ⟨t,q⟩:=e
 simp only [Edg.cells] at HKA ⊢
 clear h hfr hun hT
 have H3:Hid (Below w.heap.size w (((w.alloc (.cells #[.int .u8 t,.int .u32 q] 48)).alloc (.cells #[.int .u8 0,.int .u32 0] 48)).alloc (.cells #[.int .u8 0,.int .u32 0] 48))):=Lib.hid ((((Below.refl _ _).alloc (Nat.le_refl _) _).alloc (by simp) _).alloc (by simp;omega) _)
 obtain ⟨W,hW⟩:∃W,W=(((w.alloc (.cells #[.int .u8 t,.int .u32 q] 48)).alloc (.cells #[.int .u8 0,.int .u32 0] 48)).alloc (.cells #[.int .u8 0,.int .u32 0] 48)):=⟨_,rfl⟩
 have hB0:Blk W w.heap.size 48 #[.int .u8 t,.int .u32 q]:=by rw [hW];exact ((Blk.new w _ _).alloc _).alloc _
 have hB1:Blk W (w.heap.size+1) 48 #[.int .u8 0,.int .u32 0]:=by rw [hW];exact (Blk.new_at (by simp) _ _).alloc _
 have hB2:Blk W (w.heap.size+2) 48 #[.int .u8 0,.int .u32 0]:=by rw [hW];exact Blk.new_at (by simp) _ _
 rw [← hW] at H3
 have HWS:Hid (W.heap.size=w.heap.size+3):=Lib.hid (by rw [hW];simp)
 have a0:W.cell? ⟨w.heap.size,0,none⟩=some (.int .u8 t):=hB0.cell 0
 have a1:W.cell? ⟨w.heap.size,1,none⟩=some (.int .u32 q):=hB0.cell 1
 have HB12:=Lib.hid (And.intro hB1 hB2)
 have HWW:=Lib.hid hW
 clear hB0 hB1 hB2
 go_enter Tryz.func102,Tryz.ntmps102
 go_wp2_with fail
 rw [← HWW.out]
 clear hW
 refine (HKA.out W H3.out).mono ?_
 clear a0 a1
 rintro e w1 (⟨lo,hi,cs2,free2,rfl,hP,hgr,hT⟩|⟨cs2,free2,rfl,hfull,hgr,hT⟩)
 all_goals
  have hB1:=HB12.out.1.chg hT.2 (fun hm=>by have:=hF.out _ hm;omega)
  have hB2:=HB12.out.2.chg hT.2 (fun hm=>by have:=hF.out _ hm;omega)
  have n0:w1.cell? ⟨w.heap.size+2,0,none⟩=some (.int .u8 0):=hB2.cell 0
  have n1:w1.cell? ⟨w.heap.size+2,1,none⟩=some (.int .u32 0):=hB2.cell 1
  have b0:w1.cell? ⟨w.heap.size+1,0,none⟩=some (.int .u8 0):=hB1.cell 0
  have b1:w1.cell? ⟨w.heap.size+1,1,none⟩=some (.int .u32 0):=hB1.cell 1
  have z0:=hB2.frozen 0
  have z1:=hB2.frozen 1
  have y0:=hB1.frozen 0
  have y1:=hB1.frozen 1
  have HTT:=Lib.hid hT
  have HB:=Lib.hid (And.intro hB1 hB2)
  clear hT hB1 hB2
 ·have HT:=Lib.hid (And.intro hP hgr)
  clear hP hgr
  obtain ⟨at_,ap⟩:=lo
  obtain ⟨bt,bp⟩:=hi
  simp only [Edg.cells]
  go_wp2_with fail
  refine post_gen (Boxes w.heap.size w1 (.int .u8 at_) (.int .u32 ap) (.int .u8 bt) (.int .u32 bp)) (by first |exact (((Boxes.refl HB.out.1 HB.out.2).lo _ _).hi _ _).drew|exact (((Boxes.refl HB.out.1 HB.out.2).lo _ _).hi _ _)) ?_
  rintro V2 ⟨hc2,hk1,hk2⟩
  clear b0 b1 n0 n1 z0 z1 y0 y1
  have b0:V2.cell? ⟨w.heap.size+1,0,none⟩=some (.int .u8 at_):=hk1.cell 0
  have b1:V2.cell? ⟨w.heap.size+1,1,none⟩=some (.int .u32 ap):=hk1.cell 1
  have n0:V2.cell? ⟨w.heap.size+2,0,none⟩=some (.int .u8 bt):=hk2.cell 0
  have n1:V2.cell? ⟨w.heap.size+2,1,none⟩=some (.int .u32 bp):=hk2.cell 1
  clear hk1 hk2
  refine bodyPost_ret (v:= .tuple #[.agg (⟨at_,ap⟩:Edg).cells.toArray,.agg (⟨bt,bp⟩:Edg).cells.toArray,.int .u8 0]) ?_ rfl (.inl ⟨⟨at_,ap⟩,⟨bt,bp⟩,cs2,free2,rfl,HT.out.1,HT.out.2,?_⟩)
  ·simp [results,Tryz.results102,go_sem,Edg.cells,Edg.nil, *]
  ·exact sto_down (G:=[w.heap.size+1,w.heap.size+2]) H3.out hF.out HTT.out hc2 (fun k hk=>by have:=HWS.out;simp at hk;omega)
 ·have HT:=Lib.hid (And.intro hfull hgr)
  clear hfull hgr
  simp only [Edg.cells,Edg.nil]
  go_wp2_with fail
  refine post_gen (Boxes w.heap.size w1 (.int .u8 0) (.int .u32 0) (.int .u8 0) (.int .u32 0)) (by first |exact (((Boxes.refl HB.out.1 HB.out.2).lo _ _).hi _ _).drew|exact (((Boxes.refl HB.out.1 HB.out.2).lo _ _).hi _ _)) ?_
  rintro V2 ⟨hc2,hk1,hk2⟩
  clear b0 b1 n0 n1 z0 z1 y0 y1
  have b0:V2.cell? ⟨w.heap.size+1,0,none⟩=some (.int .u8 0):=hk1.cell 0
  have b1:V2.cell? ⟨w.heap.size+1,1,none⟩=some (.int .u32 0):=hk1.cell 1
  have n0:V2.cell? ⟨w.heap.size+2,0,none⟩=some (.int .u8 0):=hk2.cell 0
  have n1:V2.cell? ⟨w.heap.size+2,1,none⟩=some (.int .u32 0):=hk2.cell 1
  clear hk1 hk2
  refine bodyPost_ret (v:= .tuple #[.agg Edg.nil.cells.toArray,.agg Edg.nil.cells.toArray,.int .u8 6]) ?_ rfl (.inr ⟨cs2,free2,rfl,HT.out.1,HT.out.2,?_⟩)
  ·simp [results,Tryz.results102,go_sem,Edg.cells,Edg.nil, *]
  ·exact sto_down (G:=[w.heap.size+1,w.heap.size+2]) H3.out hF.out HTT.out hc2 (fun k hk=>by have:=HWS.out;simp at hk;omega)
theorem f_cases {f:Int} (h:1≤f∧f≤5):f=1∨f=2∨f=3∨f=4∨f=5:=by omega
theorem cmk_any (F:List Nat) (g n room:Nat) (cs:List (Option Rec)) (free:List Int) (f l:Int) (lo hi:Edg) (a b:Dg) (w:World) (h:StoreAt w F g n room cs free) (hfr:FreeOk cs free) (ht:Two cs f n l lo hi a b) :
  Calls Tryz.prog 56 #[.pointer (some ⟨g,0,none⟩),.int .u8 f,.int .i64 l,.agg lo.cells.toArray,.agg hi.cells.toArray] w (EdgeOut 1 w F g n room cs (fun cs' ed=>Unf cs' f ed (mkT f l a b))):=by
 rcases f_cases ht.f15 with rfl|rfl|rfl|rfl|rfl
 ·exact cmk_1 F g n room cs free l lo hi a b w h hfr ht
 ·exact cmk_2 F g n room cs free l lo hi a b w h hfr ht
 ·exact cmk_3 F g n room cs free l lo hi a b w h hfr ht
 ·exact cmk_4 F g n room cs free l lo hi a b w h hfr ht
 ·exact cmk_5 F g n room cs free l lo hi a b w h hfr ht
theorem cvw_any (F:List Nat) (g n room:Nat) (cs:List (Option Rec)) (free:List Int) (f l:Int) (e:Edg) (T:Dg) (w:World) (h:StoreAt w F g n room cs free) (hfr:FreeOk cs free) (hf:1≤f∧f≤5) (hun:Unf cs f e T) (hT:Ft f l T∧Gd f n T) (hl:0≤l∧l<n) :
  Calls Tryz.prog 102 #[.pointer (some ⟨g,0,none⟩),.int .u8 f,.agg e.cells.toArray,.int .i64 l] w (ViewOut 1 w F g n room cs (fun cs' lo hi=>Unf cs' f lo (viewT f l T).1∧Unf cs' f hi (viewT f l T).2)):=by
 rcases f_cases hf with rfl|rfl|rfl|rfl|rfl
 ·exact cvw_1 F g n room cs free l e T w h hfr hun hT hl
 ·exact cvw_2 F g n room cs free l e T w h hfr hun hT hl
 ·exact cvw_3 F g n room cs free l e T w h hfr hun hT hl
 ·exact cvw_4 F g n room cs free l e T w h hfr hun hT hl
 ·exact cvw_5 F g n room cs free l e T w h hfr hun hT hl
end
end Go.Proofs.YtnlmlehcpngcgaaGreat
