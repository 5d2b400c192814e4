/- Contract: bdd.View of a diagram. -/
import Derived.Test.YtnlmlehcpngcgaaGreatQap
namespace Go.Proofs.YtnlmlehcpngcgaaGreat
set_option linter.unusedSimpArgs false
set_option linter.unusedVariables false
section
open Go.RowKit Go.Sort
set_option maxRecDepth 100000 in
set_option maxHeartbeats 8000000 in
theorem vw_bdd (F:List Nat) (g n room:Nat) (cs:List (Option Rec)) (free:List Int) (l:Int) (e:Edg) (T:Dg) (w:World) (h:StoreAt w F g n room cs free) (hfr:FreeOk cs free) (hun:Unf cs 1 e T) (hT:Ft 1 l T∧Gd 1 n T) (hl:0≤l∧l<n) :
  Calls Tryz.prog 117 #[.pointer (some ⟨g,0,none⟩),.agg e.cells.toArray,.int .i64 l] w (ViewOut 1 w F g n room cs (fun cs' lo hi=>Unf cs' 1 lo (viewT 1 l T).1∧Unf cs' 1 hi (viewT 1 l T).2)):=by
 have hok:=h.ok
 have he:e.Wf:=unf_wf (by have:=hok.n16;omega) (recAt_big hok) hun hT.2
 have hle:leads cs n 1 e l=true:=leads_of (by have:=hok.n16;omega) (by omega) ⟨by omega,by omega⟩ hun hT.1 hT.2
 have HST:=Lib.hid h
 have HOK:=Lib.hid hok
 have HFR:=Lib.hid hfr
 have HUN:=Lib.hid hun
 have HT:=Lib.hid hT
 have HEW:=Lib.hid he
 have HLT:=Lib.hid hle
 have hF:=Lib.hid h.lt
 have HNL:=Lib.hid (unf_nil hun)
 have HTG:=Lib.hid (unf_tag hun)
 have hn16:=hok.n16
 obtain ⟨t,q⟩:=e
 obtain ⟨e1,e2,e3,e4⟩:=he
 simp only [Edg.cells] at e1 e2 e3 e4 ⊢
 have H3:Hid (Below w.heap.size w (((w.alloc (.cells #[.int .u8 t,.int .u32 q] 48)).alloc (.cells #[.int .u8 0,.int .u32 0] 48)).alloc (.cells #[.int .u8 0,.int .u32 0] 48))):=Lib.hid ((((Below.refl _ _).alloc (Nat.le_refl _) _).alloc (by simp) _).alloc (by simp;omega) _)
 obtain ⟨W,hW⟩:∃W,W=(((w.alloc (.cells #[.int .u8 t,.int .u32 q] 48)).alloc (.cells #[.int .u8 0,.int .u32 0] 48)).alloc (.cells #[.int .u8 0,.int .u32 0] 48)):=⟨_,rfl⟩
 have hB0:Blk W w.heap.size 48 #[.int .u8 t,.int .u32 q]:=by rw [hW];exact ((Blk.new w _ _).alloc _).alloc _
 have hB1:Blk W (w.heap.size+1) 48 #[.int .u8 0,.int .u32 0]:=by rw [hW];exact (Blk.new_at (by simp) _ _).alloc _
 have hB2:Blk W (w.heap.size+2) 48 #[.int .u8 0,.int .u32 0]:=by rw [hW];exact Blk.new_at (by simp) _ _
 rw [← hW] at H3
 have HSW:=Lib.hid (HST.out.on H3.out)
 have HWS:Hid (W.heap.size=w.heap.size+3):=Lib.hid (by rw [hW];simp)
 have FB:Hid (∀ W',Below W.heap.size W W'→Blk W' w.heap.size 48 #[.int .u8 t,.int .u32 q]∧Blk W' (w.heap.size+1) 48 #[.int .u8 0,.int .u32 0]∧Blk W' (w.heap.size+2) 48 #[.int .u8 0,.int .u32 0]):=Lib.hid fun W' hW'=>⟨hB0.on' hW',hB1.on' hW',hB2.on' hW'⟩
 have HWW:=Lib.hid hW
 have HLE:=Lib.hid (fun (W':World) (hW':Below W.heap.size W W')=>by
  have h:=leads_any F g n room cs free 1 ⟨t,q⟩ l W' (HSW.out.on hW') (by omega) HEW.out
  rw [HLT.out] at h
  exact h.mono (R':=fun r w'=>r = .returned (.bool true)∧Below W.heap.size W w') fun _ _ ⟨q1,q2⟩=>⟨q1,hW'.trans (q2.mono hW'.size)⟩)
 have HVA:=Lib.hid (fun (W':World) (hW':Below W.heap.size W W')=>storeVars_any F g n room cs free W' (HSW.out.on hW'))
 have HGE:=Lib.hid (fun (W':World) (hW':Below W.heap.size W W')=>(storeGet_any F g n room cs free q W' (HSW.out.on hW') e3 e4).mono (R':=fun r w'=>r = .returned (getR (recAt cs q))∧Below W.heap.size W w') fun _ _ ⟨q1,q2⟩=>⟨q1,hW'.trans (q2.mono hW'.size)⟩)
 simp only [Edg.cells] at HLE
 have HL:Hid (0≤l∧l<n):=Lib.hid hl
 obtain ⟨hl0a,hl0b⟩:=hl
 clear h hfr hok hun hT hle hB0 hB1 hB2
 cases hr:recAt cs q with
 | none=>
  have HRC:=Lib.hid hr
  have hvt:viewT 1 l T=(T,T):=by
   unfold viewT
   rw [if_pos rfl]
   rcases unf_rec_none HUN.out hr with rfl|⟨t',rfl⟩<;>rfl
  have HVT:=Lib.hid hvt
  clear hr hvt
  go_enter Tryz.func117,Tryz.ntmps117
  go_wp2_with fail
  rw [← HWW.out]
  clear hW
  obtain ⟨hb0,hb1,hb2⟩:=FB.out W (Below.refl _ _)
  have a0:W.cell? ⟨w.heap.size,0,none⟩=some (.int .u8 t):=hb0.cell 0
  have a1:W.cell? ⟨w.heap.size,1,none⟩=some (.int .u32 q):=hb0.cell 1
  have b0:W.cell? ⟨w.heap.size+1,0,none⟩=some (.int .u8 0):=hb1.cell 0
  have b1:W.cell? ⟨w.heap.size+1,1,none⟩=some (.int .u32 0):=hb1.cell 1
  have n0:W.cell? ⟨w.heap.size+2,0,none⟩=some (.int .u8 0):=hb2.cell 0
  have n1:W.cell? ⟨w.heap.size+2,1,none⟩=some (.int .u32 0):=hb2.cell 1
  have z0:=hb2.frozen 0
  have z1:=hb2.frozen 1
  have y0:=hb1.frozen 0
  have y1:=hb1.frozen 1
  clear hb0 hb1 hb2
  refine (HVA.out _ (Below.refl _ _)).mono ?_
  rintro e w' ⟨rfl,rfl⟩
  go_wp2_with fail
  refine (HLE.out _ (Below.refl _ _)).mono ?_
  rintro e w1 ⟨rfl,hbel1⟩
  clear a0 a1 b0 b1 n0 n1 z0 z1 y0 y1
  obtain ⟨hb0,hb1,hb2⟩:=FB.out w1 hbel1
  have a0:w1.cell? ⟨w.heap.size,0,none⟩=some (.int .u8 t):=hb0.cell 0
  have a1:w1.cell? ⟨w.heap.size,1,none⟩=some (.int .u32 q):=hb0.cell 1
  have b0:w1.cell? ⟨w.heap.size+1,0,none⟩=some (.int .u8 0):=hb1.cell 0
  have b1:w1.cell? ⟨w.heap.size+1,1,none⟩=some (.int .u32 0):=hb1.cell 1
  have n0:w1.cell? ⟨w.heap.size+2,0,none⟩=some (.int .u8 0):=hb2.cell 0
  have n1:w1.cell? ⟨w.heap.size+2,1,none⟩=some (.int .u32 0):=hb2.cell 1
  have z0:=hb2.frozen 0
  have z1:=hb2.frozen 1
  have y0:=hb1.frozen 0
  have y1:=hb1.frozen 1
  clear hb0 hb1 hb2
  go_wp2_with fail
  refine (HGE.out _ hbel1).mono ?_
  rintro e w2 ⟨rfl,hbel2⟩
  rw [HRC.out]
  unfold getR
  simp only [Rec.nil,Rec.cells,Edg.nil]
  clear a0 a1 b0 b1 n0 n1 z0 z1 y0 y1
  obtain ⟨hb0,hb1,hb2⟩:=FB.out w2 hbel2
  have a0:w2.cell? ⟨w.heap.size,0,none⟩=some (.int .u8 t):=hb0.cell 0
  have a1:w2.cell? ⟨w.heap.size,1,none⟩=some (.int .u32 q):=hb0.cell 1
  have b0:w2.cell? ⟨w.heap.size+1,0,none⟩=some (.int .u8 0):=hb1.cell 0
  have b1:w2.cell? ⟨w.heap.size+1,1,none⟩=some (.int .u32 0):=hb1.cell 1
  have n0:w2.cell? ⟨w.heap.size+2,0,none⟩=some (.int .u8 0):=hb2.cell 0
  have n1:w2.cell? ⟨w.heap.size+2,1,none⟩=some (.int .u32 0):=hb2.cell 1
  have z0:=hb2.frozen 0
  have z1:=hb2.frozen 1
  have y0:=hb1.frozen 0
  have y1:=hb1.frozen 1
  clear hb0 hb1 hb2
  have q0:w.heap.size<w2.heap.size:=by have:=HWS.out;have:=hbel2.size;omega
  have q1:w.heap.size+1<w2.heap.size:=by have:=HWS.out;have:=hbel2.size;omega
  have q2:w.heap.size+2<w2.heap.size:=by have:=HWS.out;have:=hbel2.size;omega
  go_wp2_with fail
  clear a0 a1 b0 b1 n0 n1 z0 z1 y0 y1
  refine wp_gen (fun W3=>Below W.heap.size W W3∧Blk W3 w2.heap.size 78 #[.int .u8 0,.int .u8 0,.int .u8 0,.int .u8 0,.int .u32 0,.int .u8 0,.int .u32 0]) ⟨hbel2.alloc hbel2.size _,Blk.new_at rfl _ _⟩ ?_
  rintro W3 ⟨hbel3,hB3⟩
  obtain ⟨hb0,hb1,hb2⟩:=FB.out W3 hbel3
  have a0:W3.cell? ⟨w.heap.size,0,none⟩=some (.int .u8 t):=hb0.cell 0
  have a1:W3.cell? ⟨w.heap.size,1,none⟩=some (.int .u32 q):=hb0.cell 1
  have b0:W3.cell? ⟨w.heap.size+1,0,none⟩=some (.int .u8 0):=hb1.cell 0
  have b1:W3.cell? ⟨w.heap.size+1,1,none⟩=some (.int .u32 0):=hb1.cell 1
  have n0:W3.cell? ⟨w.heap.size+2,0,none⟩=some (.int .u8 0):=hb2.cell 0
  have n1:W3.cell? ⟨w.heap.size+2,1,none⟩=some (.int .u32 0):=hb2.cell 1
  have z0:=hb2.frozen 0
  have z1:=hb2.frozen 1
  have y0:=hb1.frozen 0
  have y1:=hb1.frozen 1
  clear hb0 hb1 hb2
  clear hB3
  go_region
  all_goals
   go_wp2_with fail
   refine bodyPost_ret (v:= .tuple #[.agg (⟨t,q⟩:Edg).cells.toArray,.agg (⟨t,q⟩:Edg).cells.toArray,.int .u8 0]) ?_ rfl (.inl ⟨⟨t,q⟩,⟨t,q⟩,cs,free,rfl,?_,Grow.refl HFR.out 1,sto_below HST.out ?_⟩)
   ·simp [results,Tryz.results117,go_sem,Edg.cells,Edg.nil, *]
   ·rw [HVT.out];exact ⟨HUN.out,HUN.out⟩
   ·have hT:=H3.out.trans (Below.mono (B':=w.heap.size) hbel3 H3.out.size)
    have hs:w.heap.size≤w2.heap.size:=by omega
    repeat (first|with_reducible exact hT|refine Below.drew ?_|refine Below.setCell ?_ (by simp only;omega) _|refine Below.alloc ?_ (by first |exact hs|(have:=hT.size;omega)) _)
 | some r=>
  have HRC:=Lib.hid hr
  have hwf:=recAt_wf HOK.out hr
  obtain ⟨ta,tb,hte,hrf,hua,hub⟩:=unf_rec_some HUN.out hr
  have hft:=HT.out.1
  rw [hte] at hft
  have hge:l≤r.top:=hft.1
  obtain ⟨rf,rt,rb,⟨rlt,rlp⟩,⟨rht,rhp⟩⟩:=r
  obtain ⟨⟨w1,w2⟩,⟨w3,w4⟩,⟨w5,w6⟩,w7,w8⟩:=hwf
  simp only at w1 w2 w3 w4 w5 w6 hge hte hrf hua hub
  subst hrf
  have hwt:IntKind.i64.wrap rt=rt:=IntWalk.i64_in _ (by omega)
  have HTE:=Lib.hid hte
  have HU:=Lib.hid (And.intro hua hub)
  have HW:=Lib.hid (And.intro w7 w8)
  clear hr hft hua hub hte w7 w8
  by_cases htop:l<rt
  ·have hvt:viewT 1 l T=(T,T):=by
    unfold viewT
    rw [if_pos rfl]
    rw [HTE.out]
    simp only
    rw [if_neg (by omega)]
   have HVT:=Lib.hid hvt
   clear hvt
   go_enter Tryz.func117,Tryz.ntmps117
   go_wp2_with fail
   rw [← HWW.out]
   clear hW
   obtain ⟨hb0,hb1,hb2⟩:=FB.out W (Below.refl _ _)
   have a0:W.cell? ⟨w.heap.size,0,none⟩=some (.int .u8 t):=hb0.cell 0
   have a1:W.cell? ⟨w.heap.size,1,none⟩=some (.int .u32 q):=hb0.cell 1
   have b0:W.cell? ⟨w.heap.size+1,0,none⟩=some (.int .u8 0):=hb1.cell 0
   have b1:W.cell? ⟨w.heap.size+1,1,none⟩=some (.int .u32 0):=hb1.cell 1
   have n0:W.cell? ⟨w.heap.size+2,0,none⟩=some (.int .u8 0):=hb2.cell 0
   have n1:W.cell? ⟨w.heap.size+2,1,none⟩=some (.int .u32 0):=hb2.cell 1
   have z0:=hb2.frozen 0
   have z1:=hb2.frozen 1
   have y0:=hb1.frozen 0
   have y1:=hb1.frozen 1
   clear hb0 hb1 hb2
   refine (HVA.out _ (Below.refl _ _)).mono ?_
   rintro e w' ⟨rfl,rfl⟩
   go_wp2_with fail
   refine (HLE.out _ (Below.refl _ _)).mono ?_
   rintro e w1 ⟨rfl,hbel1⟩
   clear a0 a1 b0 b1 n0 n1 z0 z1 y0 y1
   obtain ⟨hb0,hb1,hb2⟩:=FB.out w1 hbel1
   have a0:w1.cell? ⟨w.heap.size,0,none⟩=some (.int .u8 t):=hb0.cell 0
   have a1:w1.cell? ⟨w.heap.size,1,none⟩=some (.int .u32 q):=hb0.cell 1
   have b0:w1.cell? ⟨w.heap.size+1,0,none⟩=some (.int .u8 0):=hb1.cell 0
   have b1:w1.cell? ⟨w.heap.size+1,1,none⟩=some (.int .u32 0):=hb1.cell 1
   have n0:w1.cell? ⟨w.heap.size+2,0,none⟩=some (.int .u8 0):=hb2.cell 0
   have n1:w1.cell? ⟨w.heap.size+2,1,none⟩=some (.int .u32 0):=hb2.cell 1
   have z0:=hb2.frozen 0
   have z1:=hb2.frozen 1
   have y0:=hb1.frozen 0
   have y1:=hb1.frozen 1
   clear hb0 hb1 hb2
   go_wp2_with fail
   refine (HGE.out _ hbel1).mono ?_
   rintro e w2 ⟨rfl,hbel2⟩
   rw [HRC.out]
   unfold getR
   simp only [Rec.nil,Rec.cells,Edg.nil]
   clear a0 a1 b0 b1 n0 n1 z0 z1 y0 y1
   obtain ⟨hb0,hb1,hb2⟩:=FB.out w2 hbel2
   have a0:w2.cell? ⟨w.heap.size,0,none⟩=some (.int .u8 t):=hb0.cell 0
   have a1:w2.cell? ⟨w.heap.size,1,none⟩=some (.int .u32 q):=hb0.cell 1
   have b0:w2.cell? ⟨w.heap.size+1,0,none⟩=some (.int .u8 0):=hb1.cell 0
   have b1:w2.cell? ⟨w.heap.size+1,1,none⟩=some (.int .u32 0):=hb1.cell 1
   have n0:w2.cell? ⟨w.heap.size+2,0,none⟩=some (.int .u8 0):=hb2.cell 0
   have n1:w2.cell? ⟨w.heap.size+2,1,none⟩=some (.int .u32 0):=hb2.cell 1
   have z0:=hb2.frozen 0
   have z1:=hb2.frozen 1
   have y0:=hb1.frozen 0
   have y1:=hb1.frozen 1
   clear hb0 hb1 hb2
   have q0:w.heap.size<w2.heap.size:=by have:=HWS.out;have:=hbel2.size;omega
   have q1:w.heap.size+1<w2.heap.size:=by have:=HWS.out;have:=hbel2.size;omega
   have q2:w.heap.size+2<w2.heap.size:=by have:=HWS.out;have:=hbel2.size;omega
   go_wp2_with fail
   clear a0 a1 b0 b1 n0 n1 z0 z1 y0 y1
   refine wp_gen (fun W3=>Below W.heap.size W W3∧Blk W3 w2.heap.size 78 #[.int .u8 1,.int .u8 rt,.int .u8 rb,.int .u8 rlt,.int .u32 rlp,.int .u8 rht,.int .u32 rhp]) ⟨hbel2.alloc hbel2.size _,Blk.new_at rfl _ _⟩ ?_
   rintro W3 ⟨hbel3,hB3⟩
   obtain ⟨hb0,hb1,hb2⟩:=FB.out W3 hbel3
   have a0:W3.cell? ⟨w.heap.size,0,none⟩=some (.int .u8 t):=hb0.cell 0
   have a1:W3.cell? ⟨w.heap.size,1,none⟩=some (.int .u32 q):=hb0.cell 1
   have b0:W3.cell? ⟨w.heap.size+1,0,none⟩=some (.int .u8 0):=hb1.cell 0
   have b1:W3.cell? ⟨w.heap.size+1,1,none⟩=some (.int .u32 0):=hb1.cell 1
   have n0:W3.cell? ⟨w.heap.size+2,0,none⟩=some (.int .u8 0):=hb2.cell 0
   have n1:W3.cell? ⟨w.heap.size+2,1,none⟩=some (.int .u32 0):=hb2.cell 1
   have z0:=hb2.frozen 0
   have z1:=hb2.frozen 1
   have y0:=hb1.frozen 0
   have y1:=hb1.frozen 1
   clear hb0 hb1 hb2
   have r3:W3.cell? ⟨w2.heap.size,3,none⟩=some (.int .u8 rlt):=hB3.cell 3
   have r4:W3.cell? ⟨w2.heap.size,4,none⟩=some (.int .u32 rlp):=hB3.cell 4
   have r5:W3.cell? ⟨w2.heap.size,5,none⟩=some (.int .u8 rht):=hB3.cell 5
   have r6:W3.cell? ⟨w2.heap.size,6,none⟩=some (.int .u32 rhp):=hB3.cell 6
   clear hB3
   go_region
   all_goals
    go_wp2_with fail
    refine bodyPost_ret (v:= .tuple #[.agg (⟨t,q⟩:Edg).cells.toArray,.agg (⟨t,q⟩:Edg).cells.toArray,.int .u8 0]) ?_ rfl (.inl ⟨⟨t,q⟩,⟨t,q⟩,cs,free,rfl,?_,Grow.refl HFR.out 1,sto_below HST.out ?_⟩)
    ·simp [results,Tryz.results117,go_sem,Edg.cells,Edg.nil, *]
    ·rw [HVT.out];exact ⟨HUN.out,HUN.out⟩
    ·have hT:=H3.out.trans (Below.mono (B':=w.heap.size) hbel3 H3.out.size)
     have hs:w.heap.size≤w2.heap.size:=by omega
     repeat (first|with_reducible exact hT|refine Below.drew ?_|refine Below.setCell ?_ (by simp only;omega) _|refine Below.alloc ?_ (by first |exact hs|(have:=hT.size;omega)) _)
  ·obtain rfl:l=rt:=by omega
   have hvt:viewT 1 l T=(ta,tb):=by
    unfold viewT
    rw [if_pos rfl]
    rw [HTE.out]
    simp only
    rw [if_pos trivial]
   have HVT:=Lib.hid hvt
   clear hvt
   go_enter Tryz.func117,Tryz.ntmps117
   go_wp2_with fail
   rw [← HWW.out]
   clear hW
   obtain ⟨hb0,hb1,hb2⟩:=FB.out W (Below.refl _ _)
   have a0:W.cell? ⟨w.heap.size,0,none⟩=some (.int .u8 t):=hb0.cell 0
   have a1:W.cell? ⟨w.heap.size,1,none⟩=some (.int .u32 q):=hb0.cell 1
   have b0:W.cell? ⟨w.heap.size+1,0,none⟩=some (.int .u8 0):=hb1.cell 0
   have b1:W.cell? ⟨w.heap.size+1,1,none⟩=some (.int .u32 0):=hb1.cell 1
   have n0:W.cell? ⟨w.heap.size+2,0,none⟩=some (.int .u8 0):=hb2.cell 0
   have n1:W.cell? ⟨w.heap.size+2,1,none⟩=some (.int .u32 0):=hb2.cell 1
   have z0:=hb2.frozen 0
   have z1:=hb2.frozen 1
   have y0:=hb1.frozen 0
   have y1:=hb1.frozen 1
   clear hb0 hb1 hb2
   refine (HVA.out _ (Below.refl _ _)).mono ?_
   rintro e w' ⟨rfl,rfl⟩
   go_wp2_with fail
   refine (HLE.out _ (Below.refl _ _)).mono ?_
   rintro e w1 ⟨rfl,hbel1⟩
   clear a0 a1 b0 b1 n0 n1 z0 z1 y0 y1
   obtain ⟨hb0,hb1,hb2⟩:=FB.out w1 hbel1
   have a0:w1.cell? ⟨w.heap.size,0,none⟩=some (.int .u8 t):=hb0.cell 0
   have a1:w1.cell? ⟨w.heap.size,1,none⟩=some (.int .u32 q):=hb0.cell 1
   have b0:w1.cell? ⟨w.heap.size+1,0,none⟩=some (.int .u8 0):=hb1.cell 0
   have b1:w1.cell? ⟨w.heap.size+1,1,none⟩=some (.int .u32 0):=hb1.cell 1
   have n0:w1.cell? ⟨w.heap.size+2,0,none⟩=some (.int .u8 0):=hb2.cell 0
   have n1:w1.cell? ⟨w.heap.size+2,1,none⟩=some (.int .u32 0):=hb2.cell 1
   have z0:=hb2.frozen 0
   have z1:=hb2.frozen 1
   have y0:=hb1.frozen 0
   have y1:=hb1.frozen 1
   clear hb0 hb1 hb2
   go_wp2_with fail
   refine (HGE.out _ hbel1).mono ?_
   rintro e w2 ⟨rfl,hbel2⟩
   rw [HRC.out]
   unfold getR
   simp only [Rec.nil,Rec.cells,Edg.nil]
   clear a0 a1 b0 b1 n0 n1 z0 z1 y0 y1
   obtain ⟨hb0,hb1,hb2⟩:=FB.out w2 hbel2
   have a0:w2.cell? ⟨w.heap.size,0,none⟩=some (.int .u8 t):=hb0.cell 0
   have a1:w2.cell? ⟨w.heap.size,1,none⟩=some (.int .u32 q):=hb0.cell 1
   have b0:w2.cell? ⟨w.heap.size+1,0,none⟩=some (.int .u8 0):=hb1.cell 0
   have b1:w2.cell? ⟨w.heap.size+1,1,none⟩=some (.int .u32 0):=hb1.cell 1
   have n0:w2.cell? ⟨w.heap.size+2,0,none⟩=some (.int .u8 0):=hb2.cell 0
   have n1:w2.cell? ⟨w.heap.size+2,1,none⟩=some (.int .u32 0):=hb2.cell 1
   have z0:=hb2.frozen 0
   have z1:=hb2.frozen 1
   have y0:=hb1.frozen 0
   have y1:=hb1.frozen 1
   clear hb0 hb1 hb2
   have q0:w.heap.size<w2.heap.size:=by have:=HWS.out;have:=hbel2.size;omega
   have q1:w.heap.size+1<w2.heap.size:=by have:=HWS.out;have:=hbel2.size;omega
   have q2:w.heap.size+2<w2.heap.size:=by have:=HWS.out;have:=hbel2.size;omega
   go_wp2_with fail
   clear a0 a1 b0 b1 n0 n1 z0 z1 y0 y1
   refine wp_gen (fun W3=>Below W.heap.size W W3∧Blk W3 w2.heap.size 78 #[.int .u8 1,.int .u8 l,.int .u8 rb,.int .u8 rlt,.int .u32 rlp,.int .u8 rht,.int .u32 rhp]) ⟨hbel2.alloc hbel2.size _,Blk.new_at rfl _ _⟩ ?_
   rintro W3 ⟨hbel3,hB3⟩
   obtain ⟨hb0,hb1,hb2⟩:=FB.out W3 hbel3
   have a0:W3.cell? ⟨w.heap.size,0,none⟩=some (.int .u8 t):=hb0.cell 0
   have a1:W3.cell? ⟨w.heap.size,1,none⟩=some (.int .u32 q):=hb0.cell 1
   have b0:W3.cell? ⟨w.heap.size+1,0,none⟩=some (.int .u8 0):=hb1.cell 0
   have b1:W3.cell? ⟨w.heap.size+1,1,none⟩=some (.int .u32 0):=hb1.cell 1
   have n0:W3.cell? ⟨w.heap.size+2,0,none⟩=some (.int .u8 0):=hb2.cell 0
   have n1:W3.cell? ⟨w.heap.size+2,1,none⟩=some (.int .u32 0):=hb2.cell 1
   have z0:=hb2.frozen 0
   have z1:=hb2.frozen 1
   have y0:=hb1.frozen 0
   have y1:=hb1.frozen 1
   clear hb0 hb1 hb2
   have r3:W3.cell? ⟨w2.heap.size,3,none⟩=some (.int .u8 rlt):=hB3.cell 3
   have r4:W3.cell? ⟨w2.heap.size,4,none⟩=some (.int .u32 rlp):=hB3.cell 4
   have r5:W3.cell? ⟨w2.heap.size,5,none⟩=some (.int .u8 rht):=hB3.cell 5
   have r6:W3.cell? ⟨w2.heap.size,6,none⟩=some (.int .u32 rhp):=hB3.cell 6
   clear hB3
   go_region
   all_goals
    go_wp2_with fail
    refine bodyPost_ret (v:= .tuple #[.agg (⟨rlt,rlp⟩:Edg).cells.toArray,.agg (⟨rht,rhp⟩:Edg).cells.toArray,.int .u8 0]) ?_ rfl (.inl ⟨⟨rlt,rlp⟩,⟨rht,rhp⟩,cs,free,rfl,?_,Grow.refl HFR.out 1,sto_below HST.out ?_⟩)
    ·simp [results,Tryz.results117,go_sem,Edg.cells,Edg.nil, *]
    ·rw [HVT.out];exact ⟨HU.out.1,HU.out.2⟩
    ·have hT:=H3.out.trans (Below.mono (B':=w.heap.size) hbel3 H3.out.size)
     have hs:w.heap.size≤w2.heap.size:=by omega
     repeat (first|with_reducible exact hT|refine Below.drew ?_|refine Below.setCell ?_ (by simp only;omega) _|refine Below.alloc ?_ (by first |exact hs|(have:=hT.size;omega)) _)
end
end Go.Proofs.YtnlmlehcpngcgaaGreat
