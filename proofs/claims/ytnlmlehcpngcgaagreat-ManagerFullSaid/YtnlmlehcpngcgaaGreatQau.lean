/- Contract: cbdd.View of a diagram. -/
import Derived.Test.YtnlmlehcpngcgaaGreatQap
namespace Go.Proofs.YtnlmlehcpngcgaaGreat
set_option linter.unusedSimpArgs false
set_option linter.unusedVariables false
section
open Go.RowKit Go.Sort
set_option maxRecDepth 100000 in
set_option maxHeartbeats 8000000 in
theorem vw_cbdd (F:List Nat) (g n room:Nat) (cs:List (Option Rec)) (free:List Int) (l:Int) (e:Edg) (T:Dg) (w:World) (h:StoreAt w F g n room cs free) (hfr:FreeOk cs free) (hun:Unf cs 3 e T) (hT:Ft 3 l T∧Gd 3 n T) (hl:0≤l∧l<n) :
  Calls Tryz.prog 119 #[.pointer (some ⟨g,0,none⟩),.agg e.cells.toArray,.int .i64 l] w (ViewOut 1 w F g n room cs (fun cs' lo hi=>Unf cs' 3 lo (viewT 3 l T).1∧Unf cs' 3 hi (viewT 3 l T).2)):=by
 have hok:=h.ok
 have he:e.Wf:=unf_wf (by have:=hok.n16;omega) (recAt_big hok) hun hT.2
 have hle:leads cs n 3 e l=true:=leads_of (by have:=hok.n16;omega) (by omega) ⟨by omega,by omega⟩ hun hT.1 hT.2
 have HST:=Lib.hid h
 have HOK:=Lib.hid hok
 have HFR:=Lib.hid hfr
 have HUN:=Lib.hid hun
 have HT:=Lib.hid hT
 have HEW:=Lib.hid he
 have HLT:=Lib.hid hle
 have hF:=Lib.hid h.lt
 have HNL:=Lib.hid (unf_nil hun)
 have HTG:=Lib.hid (unf_tag hun)
 have hn16:=hok.n16
 obtain ⟨t,q⟩:=e
 obtain ⟨e1,e2,e3,e4⟩:=he
 simp only [Edg.cells] at e1 e2 e3 e4 ⊢
 have H3:Hid (Below w.heap.size w (((w.alloc (.cells #[.int .u8 t,.int .u32 q] 48)).alloc (.cells #[.int .u8 0,.int .u32 0] 48)).alloc (.cells #[.int .u8 0,.int .u32 0] 48))):=Lib.hid ((((Below.refl _ _).alloc (Nat.le_refl _) _).alloc (by simp) _).alloc (by simp;omega) _)
 obtain ⟨W,hW⟩:∃W,W=(((w.alloc (.cells #[.int .u8 t,.int .u32 q] 48)).alloc (.cells #[.int .u8 0,.int .u32 0] 48)).alloc (.cells #[.int .u8 0,.int .u32 0] 48)):=⟨_,rfl⟩
 have hB0:Blk W w.heap.size 48 #[.int .u8 t,.int .u32 q]:=by rw [hW];exact ((Blk.new w _ _).alloc _).alloc _
 have hB1:Blk W (w.heap.size+1) 48 #[.int .u8 0,.int .u32 0]:=by rw [hW];exact (Blk.new_at (by simp) _ _).alloc _
 have hB2:Blk W (w.heap.size+2) 48 #[.int .u8 0,.int .u32 0]:=by rw [hW];exact Blk.new_at (by simp) _ _
 rw [← hW] at H3
 have HSW:=Lib.hid (HST.out.on H3.out)
 have HWS:Hid (W.heap.size=w.heap.size+3):=Lib.hid (by rw [hW];simp)
 have FB:Hid (∀ W',Below W.heap.size W W'→Blk W' w.heap.size 48 #[.int .u8 t,.int .u32 q]∧Blk W' (w.heap.size+1) 48 #[.int .u8 0,.int .u32 0]∧Blk W' (w.heap.size+2) 48 #[.int .u8 0,.int .u32 0]):=Lib.hid fun W' hW'=>⟨hB0.on' hW',hB1.on' hW',hB2.on' hW'⟩
 have HWW:=Lib.hid hW
 have HLE:=Lib.hid (fun (W':World) (hW':Below W.heap.size W W')=>by
  have h:=leads_any F g n room cs free 3 ⟨t,q⟩ l W' (HSW.out.on hW') (by omega) HEW.out
  rw [HLT.out] at h
  exact h.mono (R':=fun r w'=>r = .returned (.bool true)∧Below W.heap.size W w') fun _ _ ⟨q1,q2⟩=>⟨q1,hW'.trans (q2.mono hW'.size)⟩)
 have HVA:=Lib.hid (fun (W':World) (hW':Below W.heap.size W W')=>storeVars_any F g n room cs free W' (HSW.out.on hW'))
 have HGE:=Lib.hid (fun (W':World) (hW':Below W.heap.size W W')=>(storeGet_any F g n room cs free q W' (HSW.out.on hW') e3 e4).mono (R':=fun r w'=>r = .returned (getR (recAt cs q))∧Below W.heap.size W w') fun _ _ ⟨q1,q2⟩=>⟨q1,hW'.trans (q2.mono hW'.size)⟩)
 simp only [Edg.cells] at HLE
 have HL:Hid (0≤l∧l<n):=Lib.hid hl
 obtain ⟨hl0a,hl0b⟩:=hl
 have HFC:=Lib.hid (fun (W':World) (hW':Below w.heap.size w W') (c d:Int) (k1:Blk W' (w.heap.size+1) 48 #[.int .u8 0,.int .u32 0]) (k2:Blk W' (w.heap.size+2) 48 #[.int .u8 c,.int .u32 d]) (hs:w.heap.size+3≤W'.heap.size) (r:Rec) (hr:r.Wf) h1 h2 h3=>(found_cbdd F g n room cs free r W' (HST.out.on hW') HFR.out hr h1 h2 h3).mono fun e w' h=>(And.intro hW' (And.intro k1 (And.intro k2 (And.intro hs h))):Below w.heap.size w W'∧Blk W' (w.heap.size+1) 48 #[.int .u8 0,.int .u32 0]∧Blk W' (w.heap.size+2) 48 #[.int .u8 c,.int .u32 d]∧w.heap.size+3≤W'.heap.size∧_))
 clear h hfr hok hun hT hle hB0 hB1 hB2
 cases hr:recAt cs q with
 | none=>
  have HRC:=Lib.hid hr
  have hvt:viewT 3 l T=(T,T):=by
   unfold viewT
   rw [if_neg (by omega),if_neg (by omega),if_pos rfl]
   rcases unf_rec_none HUN.out hr with rfl|⟨t',rfl⟩<;>rfl
  have HVT:=Lib.hid hvt
  clear hr hvt
  go_enter Tryz.func119,Tryz.ntmps119
  go_wp2_with fail
  rw [← HWW.out]
  clear hW
  obtain ⟨hb0,hb1,hb2⟩:=FB.out W (Below.refl _ _)
  have a0:W.cell? ⟨w.heap.size,0,none⟩=some (.int .u8 t):=hb0.cell 0
  have a1:W.cell? ⟨w.heap.size,1,none⟩=some (.int .u32 q):=hb0.cell 1
  have b0:W.cell? ⟨w.heap.size+1,0,none⟩=some (.int .u8 0):=hb1.cell 0
  have b1:W.cell? ⟨w.heap.size+1,1,none⟩=some (.int .u32 0):=hb1.cell 1
  have n0:W.cell? ⟨w.heap.size+2,0,none⟩=some (.int .u8 0):=hb2.cell 0
  have n1:W.cell? ⟨w.heap.size+2,1,none⟩=some (.int .u32 0):=hb2.cell 1
  have z0:=hb2.frozen 0
  have z1:=hb2.frozen 1
  have y0:=hb1.frozen 0
  have y1:=hb1.frozen 1
  clear hb0 hb1 hb2
  refine (HVA.out _ (Below.refl _ _)).mono ?_
  rintro e w' ⟨rfl,rfl⟩
  go_wp2_with fail
  refine (HLE.out _ (Below.refl _ _)).mono ?_
  rintro e w1 ⟨rfl,hbel1⟩
  clear a0 a1 b0 b1 n0 n1 z0 z1 y0 y1
  obtain ⟨hb0,hb1,hb2⟩:=FB.out w1 hbel1
  have a0:w1.cell? ⟨w.heap.size,0,none⟩=some (.int .u8 t):=hb0.cell 0
  have a1:w1.cell? ⟨w.heap.size,1,none⟩=some (.int .u32 q):=hb0.cell 1
  have b0:w1.cell? ⟨w.heap.size+1,0,none⟩=some (.int .u8 0):=hb1.cell 0
  have b1:w1.cell? ⟨w.heap.size+1,1,none⟩=some (.int .u32 0):=hb1.cell 1
  have n0:w1.cell? ⟨w.heap.size+2,0,none⟩=some (.int .u8 0):=hb2.cell 0
  have n1:w1.cell? ⟨w.heap.size+2,1,none⟩=some (.int .u32 0):=hb2.cell 1
  have z0:=hb2.frozen 0
  have z1:=hb2.frozen 1
  have y0:=hb1.frozen 0
  have y1:=hb1.frozen 1
  clear hb0 hb1 hb2
  go_wp2_with fail
  refine (HGE.out _ hbel1).mono ?_
  rintro e w2 ⟨rfl,hbel2⟩
  rw [HRC.out]
  unfold getR
  simp only [Rec.nil,Rec.cells,Edg.nil]
  clear a0 a1 b0 b1 n0 n1 z0 z1 y0 y1
  obtain ⟨hb0,hb1,hb2⟩:=FB.out w2 hbel2
  have a0:w2.cell? ⟨w.heap.size,0,none⟩=some (.int .u8 t):=hb0.cell 0
  have a1:w2.cell? ⟨w.heap.size,1,none⟩=some (.int .u32 q):=hb0.cell 1
  have b0:w2.cell? ⟨w.heap.size+1,0,none⟩=some (.int .u8 0):=hb1.cell 0
  have b1:w2.cell? ⟨w.heap.size+1,1,none⟩=some (.int .u32 0):=hb1.cell 1
  have n0:w2.cell? ⟨w.heap.size+2,0,none⟩=some (.int .u8 0):=hb2.cell 0
  have n1:w2.cell? ⟨w.heap.size+2,1,none⟩=some (.int .u32 0):=hb2.cell 1
  have z0:=hb2.frozen 0
  have z1:=hb2.frozen 1
  have y0:=hb1.frozen 0
  have y1:=hb1.frozen 1
  clear hb0 hb1 hb2
  have q0:w.heap.size<w2.heap.size:=by have:=HWS.out;have:=hbel2.size;omega
  have q1:w.heap.size+1<w2.heap.size:=by have:=HWS.out;have:=hbel2.size;omega
  have q2:w.heap.size+2<w2.heap.size:=by have:=HWS.out;have:=hbel2.size;omega
  go_wp2_with fail
  clear a0 a1 b0 b1 n0 n1 z0 z1 y0 y1
  refine wp_gen (fun W3=>Below W.heap.size W W3∧Blk W3 w2.heap.size 78 #[.int .u8 0,.int .u8 0,.int .u8 0,.int .u8 0,.int .u32 0,.int .u8 0,.int .u32 0]) ⟨hbel2.alloc hbel2.size _,Blk.new_at rfl _ _⟩ ?_
  rintro W3 ⟨hbel3,hB3⟩
  obtain ⟨hb0,hb1,hb2⟩:=FB.out W3 hbel3
  have a0:W3.cell? ⟨w.heap.size,0,none⟩=some (.int .u8 t):=hb0.cell 0
  have a1:W3.cell? ⟨w.heap.size,1,none⟩=some (.int .u32 q):=hb0.cell 1
  have b0:W3.cell? ⟨w.heap.size+1,0,none⟩=some (.int .u8 0):=hb1.cell 0
  have b1:W3.cell? ⟨w.heap.size+1,1,none⟩=some (.int .u32 0):=hb1.cell 1
  have n0:W3.cell? ⟨w.heap.size+2,0,none⟩=some (.int .u8 0):=hb2.cell 0
  have n1:W3.cell? ⟨w.heap.size+2,1,none⟩=some (.int .u32 0):=hb2.cell 1
  have z0:=hb2.frozen 0
  have z1:=hb2.frozen 1
  have y0:=hb1.frozen 0
  have y1:=hb1.frozen 1
  clear hb0 hb1 hb2
  clear hB3
  go_region
  all_goals
   go_wp2_with fail
   refine bodyPost_ret (v:= .tuple #[.agg (⟨t,q⟩:Edg).cells.toArray,.agg (⟨t,q⟩:Edg).cells.toArray,.int .u8 0]) ?_ rfl (.inl ⟨⟨t,q⟩,⟨t,q⟩,cs,free,rfl,?_,Grow.refl HFR.out 1,sto_below HST.out ?_⟩)
   ·simp [results,Tryz.results119,go_sem,Edg.cells,Edg.nil, *]
   ·rw [HVT.out];exact ⟨HUN.out,HUN.out⟩
   ·have hT:=H3.out.trans (Below.mono (B':=w.heap.size) hbel3 H3.out.size)
    have hs:w.heap.size≤W3.heap.size:=by have:=Below.size hbel3;have:=HWS.out;omega
    repeat (first|with_reducible exact hT|refine Below.drew ?_|refine Below.setCell ?_ (by simp only;omega) _|refine Below.alloc ?_ (by first |exact hs|simpa using hs|(have:=hT.size;omega)) _)
 | some r=>
  have HRC:=Lib.hid hr
  have hwf:=recAt_wf HOK.out hr
  obtain ⟨ta,tb,hte,hrf,hua,hub⟩:=unf_rec_some HUN.out hr
  have hft:=HT.out.1
  rw [hte] at hft
  have hge:l≤r.top:=hft.1
  obtain ⟨rf,rt,rb,⟨rlt,rlp⟩,⟨rht,rhp⟩⟩:=r
  obtain ⟨⟨w1,w2⟩,⟨w3,w4⟩,⟨w5,w6⟩,w7,w8⟩:=hwf
  simp only at w1 w2 w3 w4 w5 w6 hge hte hrf hua hub
  subst hrf
  have hwt:IntKind.i64.wrap rt=rt:=IntWalk.i64_in _ (by omega)
  have HTE:=Lib.hid hte
  have HU:=Lib.hid (And.intro hua hub)
  have HW:=Lib.hid (And.intro w7 w8)
  clear hr hft hua hub hte w7 w8
  by_cases htop:l<rt
  ·have hvt:viewT 3 l T=(T,T):=by
    unfold viewT
    rw [if_neg (by omega),if_neg (by omega),if_pos rfl]
    rw [HTE.out]
    simp only
    rw [if_neg (by omega)]
   have HVT:=Lib.hid hvt
   clear hvt
   go_enter Tryz.func119,Tryz.ntmps119
   go_wp2_with fail
   rw [← HWW.out]
   clear hW
   obtain ⟨hb0,hb1,hb2⟩:=FB.out W (Below.refl _ _)
   have a0:W.cell? ⟨w.heap.size,0,none⟩=some (.int .u8 t):=hb0.cell 0
   have a1:W.cell? ⟨w.heap.size,1,none⟩=some (.int .u32 q):=hb0.cell 1
   have b0:W.cell? ⟨w.heap.size+1,0,none⟩=some (.int .u8 0):=hb1.cell 0
   have b1:W.cell? ⟨w.heap.size+1,1,none⟩=some (.int .u32 0):=hb1.cell 1
   have n0:W.cell? ⟨w.heap.size+2,0,none⟩=some (.int .u8 0):=hb2.cell 0
   have n1:W.cell? ⟨w.heap.size+2,1,none⟩=some (.int .u32 0):=hb2.cell 1
   have z0:=hb2.frozen 0
   have z1:=hb2.frozen 1
   have y0:=hb1.frozen 0
   have y1:=hb1.frozen 1
   clear hb0 hb1 hb2
   refine (HVA.out _ (Below.refl _ _)).mono ?_
   rintro e w' ⟨rfl,rfl⟩
   go_wp2_with fail
   refine (HLE.out _ (Below.refl _ _)).mono ?_
   rintro e w1 ⟨rfl,hbel1⟩
   clear a0 a1 b0 b1 n0 n1 z0 z1 y0 y1
   obtain ⟨hb0,hb1,hb2⟩:=FB.out w1 hbel1
   have a0:w1.cell? ⟨w.heap.size,0,none⟩=some (.int .u8 t):=hb0.cell 0
   have a1:w1.cell? ⟨w.heap.size,1,none⟩=some (.int .u32 q):=hb0.cell 1
   have b0:w1.cell? ⟨w.heap.size+1,0,none⟩=some (.int .u8 0):=hb1.cell 0
   have b1:w1.cell? ⟨w.heap.size+1,1,none⟩=some (.int .u32 0):=hb1.cell 1
   have n0:w1.cell? ⟨w.heap.size+2,0,none⟩=some (.int .u8 0):=hb2.cell 0
   have n1:w1.cell? ⟨w.heap.size+2,1,none⟩=some (.int .u32 0):=hb2.cell 1
   have z0:=hb2.frozen 0
   have z1:=hb2.frozen 1
   have y0:=hb1.frozen 0
   have y1:=hb1.frozen 1
   clear hb0 hb1 hb2
   go_wp2_with fail
   refine (HGE.out _ hbel1).mono ?_
   rintro e w2 ⟨rfl,hbel2⟩
   rw [HRC.out]
   unfold getR
   simp only [Rec.nil,Rec.cells,Edg.nil]
   clear a0 a1 b0 b1 n0 n1 z0 z1 y0 y1
   obtain ⟨hb0,hb1,hb2⟩:=FB.out w2 hbel2
   have a0:w2.cell? ⟨w.heap.size,0,none⟩=some (.int .u8 t):=hb0.cell 0
   have a1:w2.cell? ⟨w.heap.size,1,none⟩=some (.int .u32 q):=hb0.cell 1
   have b0:w2.cell? ⟨w.heap.size+1,0,none⟩=some (.int .u8 0):=hb1.cell 0
   have b1:w2.cell? ⟨w.heap.size+1,1,none⟩=some (.int .u32 0):=hb1.cell 1
   have n0:w2.cell? ⟨w.heap.size+2,0,none⟩=some (.int .u8 0):=hb2.cell 0
   have n1:w2.cell? ⟨w.heap.size+2,1,none⟩=some (.int .u32 0):=hb2.cell 1
   have z0:=hb2.frozen 0
   have z1:=hb2.frozen 1
   have y0:=hb1.frozen 0
   have y1:=hb1.frozen 1
   clear hb0 hb1 hb2
   have q0:w.heap.size<w2.heap.size:=by have:=HWS.out;have:=hbel2.size;omega
   have q1:w.heap.size+1<w2.heap.size:=by have:=HWS.out;have:=hbel2.size;omega
   have q2:w.heap.size+2<w2.heap.size:=by have:=HWS.out;have:=hbel2.size;omega
   go_wp2_with fail
   clear a0 a1 b0 b1 n0 n1 z0 z1 y0 y1
   refine wp_gen (fun W3=>Below W.heap.size W W3∧Blk W3 w2.heap.size 78 #[.int .u8 3,.int .u8 rt,.int .u8 rb,.int .u8 rlt,.int .u32 rlp,.int .u8 rht,.int .u32 rhp]) ⟨hbel2.alloc hbel2.size _,Blk.new_at rfl _ _⟩ ?_
   rintro W3 ⟨hbel3,hB3⟩
   obtain ⟨hb0,hb1,hb2⟩:=FB.out W3 hbel3
   have a0:W3.cell? ⟨w.heap.size,0,none⟩=some (.int .u8 t):=hb0.cell 0
   have a1:W3.cell? ⟨w.heap.size,1,none⟩=some (.int .u32 q):=hb0.cell 1
   have b0:W3.cell? ⟨w.heap.size+1,0,none⟩=some (.int .u8 0):=hb1.cell 0
   have b1:W3.cell? ⟨w.heap.size+1,1,none⟩=some (.int .u32 0):=hb1.cell 1
   have n0:W3.cell? ⟨w.heap.size+2,0,none⟩=some (.int .u8 0):=hb2.cell 0
   have n1:W3.cell? ⟨w.heap.size+2,1,none⟩=some (.int .u32 0):=hb2.cell 1
   have z0:=hb2.frozen 0
   have z1:=hb2.frozen 1
   have y0:=hb1.frozen 0
   have y1:=hb1.frozen 1
   clear hb0 hb1 hb2
   have r3:W3.cell? ⟨w2.heap.size,3,none⟩=some (.int .u8 rlt):=hB3.cell 3
   have r4:W3.cell? ⟨w2.heap.size,4,none⟩=some (.int .u32 rlp):=hB3.cell 4
   have r5:W3.cell? ⟨w2.heap.size,5,none⟩=some (.int .u8 rht):=hB3.cell 5
   have r6:W3.cell? ⟨w2.heap.size,6,none⟩=some (.int .u32 rhp):=hB3.cell 6
   clear hB3
   go_region
   all_goals
    go_wp2_with fail
    refine bodyPost_ret (v:= .tuple #[.agg (⟨t,q⟩:Edg).cells.toArray,.agg (⟨t,q⟩:Edg).cells.toArray,.int .u8 0]) ?_ rfl (.inl ⟨⟨t,q⟩,⟨t,q⟩,cs,free,rfl,?_,Grow.refl HFR.out 1,sto_below HST.out ?_⟩)
    ·simp [results,Tryz.results119,go_sem,Edg.cells,Edg.nil, *]
    ·rw [HVT.out];exact ⟨HUN.out,HUN.out⟩
    ·have hT:=H3.out.trans (Below.mono (B':=w.heap.size) hbel3 H3.out.size)
     have hs:w.heap.size≤W3.heap.size:=by have:=Below.size hbel3;have:=HWS.out;omega
     repeat (first|with_reducible exact hT|refine Below.drew ?_|refine Below.setCell ?_ (by simp only;omega) _|refine Below.alloc ?_ (by first |exact hs|simpa using hs|(have:=hT.size;omega)) _)
  ·obtain rfl:l=rt:=by omega
   by_cases hbt:rb=l
   ·have hvt:viewT 3 l T=(ta,tb):=by
     unfold viewT
     rw [if_neg (by omega),if_neg (by omega),if_pos rfl]
     rw [HTE.out]
     simp only
     rw [if_pos trivial,if_pos hbt]
    have HVT:=Lib.hid hvt
    have hbt':(rb==l)=true:=by simpa using hbt
    clear hvt hbt
    go_enter Tryz.func119,Tryz.ntmps119
    go_wp2_with fail
    rw [← HWW.out]
    clear hW
    obtain ⟨hb0,hb1,hb2⟩:=FB.out W (Below.refl _ _)
    have a0:W.cell? ⟨w.heap.size,0,none⟩=some (.int .u8 t):=hb0.cell 0
    have a1:W.cell? ⟨w.heap.size,1,none⟩=some (.int .u32 q):=hb0.cell 1
    have b0:W.cell? ⟨w.heap.size+1,0,none⟩=some (.int .u8 0):=hb1.cell 0
    have b1:W.cell? ⟨w.heap.size+1,1,none⟩=some (.int .u32 0):=hb1.cell 1
    have n0:W.cell? ⟨w.heap.size+2,0,none⟩=some (.int .u8 0):=hb2.cell 0
    have n1:W.cell? ⟨w.heap.size+2,1,none⟩=some (.int .u32 0):=hb2.cell 1
    have z0:=hb2.frozen 0
    have z1:=hb2.frozen 1
    have y0:=hb1.frozen 0
    have y1:=hb1.frozen 1
    clear hb0 hb1 hb2
    refine (HVA.out _ (Below.refl _ _)).mono ?_
    rintro e w' ⟨rfl,rfl⟩
    go_wp2_with fail
    refine (HLE.out _ (Below.refl _ _)).mono ?_
    rintro e w1 ⟨rfl,hbel1⟩
    clear a0 a1 b0 b1 n0 n1 z0 z1 y0 y1
    obtain ⟨hb0,hb1,hb2⟩:=FB.out w1 hbel1
    have a0:w1.cell? ⟨w.heap.size,0,none⟩=some (.int .u8 t):=hb0.cell 0
    have a1:w1.cell? ⟨w.heap.size,1,none⟩=some (.int .u32 q):=hb0.cell 1
    have b0:w1.cell? ⟨w.heap.size+1,0,none⟩=some (.int .u8 0):=hb1.cell 0
    have b1:w1.cell? ⟨w.heap.size+1,1,none⟩=some (.int .u32 0):=hb1.cell 1
    have n0:w1.cell? ⟨w.heap.size+2,0,none⟩=some (.int .u8 0):=hb2.cell 0
    have n1:w1.cell? ⟨w.heap.size+2,1,none⟩=some (.int .u32 0):=hb2.cell 1
    have z0:=hb2.frozen 0
    have z1:=hb2.frozen 1
    have y0:=hb1.frozen 0
    have y1:=hb1.frozen 1
    clear hb0 hb1 hb2
    go_wp2_with fail
    refine (HGE.out _ hbel1).mono ?_
    rintro e w2 ⟨rfl,hbel2⟩
    rw [HRC.out]
    unfold getR
    simp only [Rec.nil,Rec.cells,Edg.nil]
    clear a0 a1 b0 b1 n0 n1 z0 z1 y0 y1
    obtain ⟨hb0,hb1,hb2⟩:=FB.out w2 hbel2
    have a0:w2.cell? ⟨w.heap.size,0,none⟩=some (.int .u8 t):=hb0.cell 0
    have a1:w2.cell? ⟨w.heap.size,1,none⟩=some (.int .u32 q):=hb0.cell 1
    have b0:w2.cell? ⟨w.heap.size+1,0,none⟩=some (.int .u8 0):=hb1.cell 0
    have b1:w2.cell? ⟨w.heap.size+1,1,none⟩=some (.int .u32 0):=hb1.cell 1
    have n0:w2.cell? ⟨w.heap.size+2,0,none⟩=some (.int .u8 0):=hb2.cell 0
    have n1:w2.cell? ⟨w.heap.size+2,1,none⟩=some (.int .u32 0):=hb2.cell 1
    have z0:=hb2.frozen 0
    have z1:=hb2.frozen 1
    have y0:=hb1.frozen 0
    have y1:=hb1.frozen 1
    clear hb0 hb1 hb2
    have q0:w.heap.size<w2.heap.size:=by have:=HWS.out;have:=hbel2.size;omega
    have q1:w.heap.size+1<w2.heap.size:=by have:=HWS.out;have:=hbel2.size;omega
    have q2:w.heap.size+2<w2.heap.size:=by have:=HWS.out;have:=hbel2.size;omega
    go_wp2_with fail
    clear a0 a1 b0 b1 n0 n1 z0 z1 y0 y1
    refine wp_gen (fun W3=>Below W.heap.size W W3∧Blk W3 w2.heap.size 78 #[.int .u8 3,.int .u8 l,.int .u8 rb,.int .u8 rlt,.int .u32 rlp,.int .u8 rht,.int .u32 rhp]) ⟨hbel2.alloc hbel2.size _,Blk.new_at rfl _ _⟩ ?_
    rintro W3 ⟨hbel3,hB3⟩
    obtain ⟨hb0,hb1,hb2⟩:=FB.out W3 hbel3
    have a0:W3.cell? ⟨w.heap.size,0,none⟩=some (.int .u8 t):=hb0.cell 0
    have a1:W3.cell? ⟨w.heap.size,1,none⟩=some (.int .u32 q):=hb0.cell 1
    have b0:W3.cell? ⟨w.heap.size+1,0,none⟩=some (.int .u8 0):=hb1.cell 0
    have b1:W3.cell? ⟨w.heap.size+1,1,none⟩=some (.int .u32 0):=hb1.cell 1
    have n0:W3.cell? ⟨w.heap.size+2,0,none⟩=some (.int .u8 0):=hb2.cell 0
    have n1:W3.cell? ⟨w.heap.size+2,1,none⟩=some (.int .u32 0):=hb2.cell 1
    have z0:=hb2.frozen 0
    have z1:=hb2.frozen 1
    have y0:=hb1.frozen 0
    have y1:=hb1.frozen 1
    clear hb0 hb1 hb2
    have r3:W3.cell? ⟨w2.heap.size,3,none⟩=some (.int .u8 rlt):=hB3.cell 3
    have r4:W3.cell? ⟨w2.heap.size,4,none⟩=some (.int .u32 rlp):=hB3.cell 4
    have r5:W3.cell? ⟨w2.heap.size,5,none⟩=some (.int .u8 rht):=hB3.cell 5
    have r6:W3.cell? ⟨w2.heap.size,6,none⟩=some (.int .u32 rhp):=hB3.cell 6
    clear hB3
    go_region
    all_goals
     go_wp2_with fail
     refine bodyPost_ret (v:= .tuple #[.agg (⟨rlt,rlp⟩:Edg).cells.toArray,.agg (⟨rht,rhp⟩:Edg).cells.toArray,.int .u8 0]) ?_ rfl (.inl ⟨⟨rlt,rlp⟩,⟨rht,rhp⟩,cs,free,rfl,?_,Grow.refl HFR.out 1,sto_below HST.out ?_⟩)
     ·simp [results,Tryz.results119,go_sem,Edg.cells,Edg.nil, *]
     ·rw [HVT.out];exact ⟨HU.out.1,HU.out.2⟩
     ·have hT:=H3.out.trans (Below.mono (B':=w.heap.size) hbel3 H3.out.size)
      have hs:w.heap.size≤W3.heap.size:=by have:=Below.size hbel3;have:=HWS.out;omega
      repeat (first|with_reducible exact hT|refine Below.drew ?_|refine Below.setCell ?_ (by simp only;omega) _|refine Below.alloc ?_ (by first |exact hs|simpa using hs|(have:=hT.size;omega)) _)
   ·have hbt':(rb==l)=false:=by simpa using hbt
    have hvt:viewT 3 l T=(.node 0 (l+1) rb ta tb,tb):=by
     unfold viewT
     rw [if_neg (by omega),if_neg (by omega),if_pos rfl]
     rw [HTE.out]
     simp only
     rw [if_pos trivial,if_neg hbt]
    have HVT:=Lib.hid hvt
    have hgd:=HT.out.2
    rw [HTE.out] at hgd
    obtain ⟨⟨g1,g2,g3,g4⟩,g5,g6,g7,g8⟩:=hgd
    have hlb:l+1≤rb:=by omega
    have hwl:IntKind.u8.wrap (l+1)=l+1:=u8_in _ (by omega)
    have hri:right ⟨3,l+1,rb,⟨rlt,rlp⟩,⟨rht,rhp⟩⟩ n=true:=right_of (by omega) (by omega) ⟨by omega,hlb,g3,.inr (.inl rfl)⟩ HU.out.1 HU.out.2 g6 g7 g8
    have hl1:leads cs n 3 ⟨rlt,rlp⟩ (rb+1)=true:=leads_of (by omega) (by omega) ⟨by omega,by omega⟩ HU.out.1 g6.1 g6.2
    have hl2:leads cs n 3 ⟨rht,rhp⟩ (rb+1)=true:=leads_of (by omega) (by omega) ⟨by omega,by omega⟩ HU.out.2 g7.1 g7.2
    have hwf:Rec.Wf ⟨3,l+1,rb,⟨rlt,rlp⟩,⟨rht,rhp⟩⟩:=⟨by simp,⟨by first |omega|(simp only;omega),by first |omega|(simp only;omega)⟩,⟨by first |omega|(simp only;omega),by first |omega|(simp only;omega)⟩,HW.out.1,HW.out.2⟩
    have HRI:=Lib.hid (And.intro hri (And.intro hl1 (And.intro hl2 hwf)))
    clear hvt hbt g1 g2 g3 g4 g5 g6 g7 g8 hri hl1 hl2 hwf hlb
    go_enter Tryz.func119,Tryz.ntmps119
    go_wp2_with fail
    rw [← HWW.out]
    clear hW
    obtain ⟨hb0,hb1,hb2⟩:=FB.out W (Below.refl _ _)
    have a0:W.cell? ⟨w.heap.size,0,none⟩=some (.int .u8 t):=hb0.cell 0
    have a1:W.cell? ⟨w.heap.size,1,none⟩=some (.int .u32 q):=hb0.cell 1
    have b0:W.cell? ⟨w.heap.size+1,0,none⟩=some (.int .u8 0):=hb1.cell 0
    have b1:W.cell? ⟨w.heap.size+1,1,none⟩=some (.int .u32 0):=hb1.cell 1
    have n0:W.cell? ⟨w.heap.size+2,0,none⟩=some (.int .u8 0):=hb2.cell 0
    have n1:W.cell? ⟨w.heap.size+2,1,none⟩=some (.int .u32 0):=hb2.cell 1
    have z0:=hb2.frozen 0
    have z1:=hb2.frozen 1
    have y0:=hb1.frozen 0
    have y1:=hb1.frozen 1
    clear hb0 hb1 hb2
    refine (HVA.out _ (Below.refl _ _)).mono ?_
    rintro e w' ⟨rfl,rfl⟩
    go_wp2_with fail
    refine (HLE.out _ (Below.refl _ _)).mono ?_
    rintro e w1 ⟨rfl,hbel1⟩
    clear a0 a1 b0 b1 n0 n1 z0 z1 y0 y1
    obtain ⟨hb0,hb1,hb2⟩:=FB.out w1 hbel1
    have a0:w1.cell? ⟨w.heap.size,0,none⟩=some (.int .u8 t):=hb0.cell 0
    have a1:w1.cell? ⟨w.heap.size,1,none⟩=some (.int .u32 q):=hb0.cell 1
    have b0:w1.cell? ⟨w.heap.size+1,0,none⟩=some (.int .u8 0):=hb1.cell 0
    have b1:w1.cell? ⟨w.heap.size+1,1,none⟩=some (.int .u32 0):=hb1.cell 1
    have n0:w1.cell? ⟨w.heap.size+2,0,none⟩=some (.int .u8 0):=hb2.cell 0
    have n1:w1.cell? ⟨w.heap.size+2,1,none⟩=some (.int .u32 0):=hb2.cell 1
    have z0:=hb2.frozen 0
    have z1:=hb2.frozen 1
    have y0:=hb1.frozen 0
    have y1:=hb1.frozen 1
    clear hb0 hb1 hb2
    go_wp2_with fail
    refine (HGE.out _ hbel1).mono ?_
    rintro e w2 ⟨rfl,hbel2⟩
    rw [HRC.out]
    unfold getR
    simp only [Rec.nil,Rec.cells,Edg.nil]
    clear a0 a1 b0 b1 n0 n1 z0 z1 y0 y1
    obtain ⟨hb0,hb1,hb2⟩:=FB.out w2 hbel2
    have a0:w2.cell? ⟨w.heap.size,0,none⟩=some (.int .u8 t):=hb0.cell 0
    have a1:w2.cell? ⟨w.heap.size,1,none⟩=some (.int .u32 q):=hb0.cell 1
    have b0:w2.cell? ⟨w.heap.size+1,0,none⟩=some (.int .u8 0):=hb1.cell 0
    have b1:w2.cell? ⟨w.heap.size+1,1,none⟩=some (.int .u32 0):=hb1.cell 1
    have n0:w2.cell? ⟨w.heap.size+2,0,none⟩=some (.int .u8 0):=hb2.cell 0
    have n1:w2.cell? ⟨w.heap.size+2,1,none⟩=some (.int .u32 0):=hb2.cell 1
    have z0:=hb2.frozen 0
    have z1:=hb2.frozen 1
    have y0:=hb1.frozen 0
    have y1:=hb1.frozen 1
    clear hb0 hb1 hb2
    have q0:w.heap.size<w2.heap.size:=by have:=HWS.out;have:=hbel2.size;omega
    have q1:w.heap.size+1<w2.heap.size:=by have:=HWS.out;have:=hbel2.size;omega
    have q2:w.heap.size+2<w2.heap.size:=by have:=HWS.out;have:=hbel2.size;omega
    go_wp2_with fail
    refine (HFC.out _ ((((H3.out.trans (hbel2.mono H3.out.size)).setCell (p:=⟨w.heap.size+1+1,0,none⟩) (by simp only;omega) _).setCell (p:=⟨w.heap.size+1+1,1,none⟩) (by simp only;omega) _).alloc (by simp;have:=HWS.out;have:=hbel2.size;omega) _) rht rhp ((((FB.out w2 hbel2).2.1.far (p:=⟨w.heap.size+1+1,0,none⟩) (by simp only;omega) _).far (p:=⟨w.heap.size+1+1,1,none⟩) (by simp only;omega) _).alloc _) ((((FB.out w2 hbel2).2.2.set_ 0 (.int .u8 rht)).set_ 1 (.int .u32 rhp)).alloc _) (by simp;have:=HWS.out;have:=hbel2.size;omega) ⟨3,l+1,rb,⟨rlt,rlp⟩,⟨rht,rhp⟩⟩ HRI.out.2.2.2 HRI.out.1 HRI.out.2.1 HRI.out.2.2.1).mono ?_
    rintro e w5 ⟨hbF,k1,k2,hs4,h5⟩
    clear a0 a1 b0 b1 n0 n1 z0 z1 y0 y1
    rcases h5 with (⟨ed,cs2,free2,rfl,⟨htag,hrec2⟩,hgr,hT⟩|⟨cs2,free2,rfl,hfull,hgr,hT⟩)
    all_goals
     have hB1:=k1.chg hT.2 (fun hm=>by have:=hF.out _ hm;omega)
     have hB2:=k2.chg hT.2 (fun hm=>by have:=hF.out _ hm;omega)
     have b0:w5.cell? ⟨w.heap.size+1,0,none⟩=some (.int .u8 0):=hB1.cell 0
     have b1:w5.cell? ⟨w.heap.size+1,1,none⟩=some (.int .u32 0):=hB1.cell 1
     have n0:w5.cell? ⟨w.heap.size+2,0,none⟩=some (.int .u8 rht):=hB2.cell 0
     have n1:w5.cell? ⟨w.heap.size+2,1,none⟩=some (.int .u32 rhp):=hB2.cell 1
     have z0:=hB2.frozen 0
     have z1:=hB2.frozen 1
     have y0:=hB1.frozen 0
     have y1:=hB1.frozen 1
     have HTT:=Lib.hid hT
     have HBF:=Lib.hid (And.intro hbF hs4)
     have HB12:=Lib.hid (And.intro hB1 hB2)
     clear hT hB1 hB2 hbF hs4 k1 k2
    ·have hun2:Unf cs2 3 ed (.node 0 (l+1) rb ta tb):=⟨htag,_,hrec2,rfl,rfl,rfl,Unf.ext hgr.ext HU.out.1,Unf.ext hgr.ext HU.out.2⟩
     have HU2:Hid (Unf cs2 3 ed (viewT 3 l T).1∧Unf cs2 3 ⟨rht,rhp⟩ (viewT 3 l T).2):=Lib.hid (by
      rw [HVT.out]
      exact ⟨hun2,Unf.ext hgr.ext HU.out.2⟩)
     have HG:=Lib.hid hgr
     clear htag hrec2 hgr hun2
     obtain ⟨et,ep⟩:=ed
     simp only [Edg.cells]
     go_wp2_with fail
     refine wp_gen (Boxes w.heap.size w5 (.int .u8 et) (.int .u32 ep) (.int .u8 rht) (.int .u32 rhp)) ((Boxes.refl HB12.out.1 HB12.out.2).lo _ _) ?_
     rintro V ⟨hVc,hV1,hV2⟩
     clear b0 b1 n0 n1 z0 z1 y0 y1
     have b0:V.cell? ⟨w.heap.size+1,0,none⟩=some (.int .u8 et):=hV1.cell 0
     have b1:V.cell? ⟨w.heap.size+1,1,none⟩=some (.int .u32 ep):=hV1.cell 1
     have n0:V.cell? ⟨w.heap.size+2,0,none⟩=some (.int .u8 rht):=hV2.cell 0
     have n1:V.cell? ⟨w.heap.size+2,1,none⟩=some (.int .u32 rhp):=hV2.cell 1
     have z0:=hV2.frozen 0
     have z1:=hV2.frozen 1
     have y0:=hV1.frozen 0
     have y1:=hV1.frozen 1
     have HVB:Hid (Boxes w.heap.size w5 (.int .u8 et) (.int .u32 ep) (.int .u8 rht) (.int .u32 rhp) V):=Lib.hid ⟨hVc,hV1,hV2⟩
     clear hVc hV1 hV2
     go_region
     go_wp2_with fail
     refine post_gen (Boxes w.heap.size w5 (.int .u8 et) (.int .u32 ep) (.int .u8 rht) (.int .u32 rhp)) (by first |exact (((HVB.out.lo _ _).hi _ _).drew)|exact ((HVB.out.lo _ _).hi _ _)) ?_
     rintro V2 ⟨hc2,hk1,hk2⟩
     clear b0 b1 n0 n1 z0 z1 y0 y1
     have b0:V2.cell? ⟨w.heap.size+1,0,none⟩=some (.int .u8 et):=hk1.cell 0
     have b1:V2.cell? ⟨w.heap.size+1,1,none⟩=some (.int .u32 ep):=hk1.cell 1
     have n0:V2.cell? ⟨w.heap.size+2,0,none⟩=some (.int .u8 rht):=hk2.cell 0
     have n1:V2.cell? ⟨w.heap.size+2,1,none⟩=some (.int .u32 rhp):=hk2.cell 1
     clear hk1 hk2
     refine bodyPost_ret (v:= .tuple #[.agg (⟨et,ep⟩:Edg).cells.toArray,.agg (⟨rht,rhp⟩:Edg).cells.toArray,.int .u8 0]) ?_ rfl (.inl ⟨⟨et,ep⟩,⟨rht,rhp⟩,cs2,free2,rfl,HU2.out,HG.out,?_⟩)
     ·simp [results,Tryz.results119,go_sem,Edg.cells,Edg.nil, *]
     ·exact sto_down (G:=[w.heap.size+1,w.heap.size+2]) HBF.out.1 hF.out HTT.out hc2 (fun k hk=>by have:=HBF.out.2;simp at hk;omega)
    ·have HG:=Lib.hid hgr
     have HFL:=Lib.hid hfull
     clear hgr hfull
     simp only [Edg.cells,Edg.nil]
     go_wp2_with fail
     refine post_gen (Boxes w.heap.size w5 (.int .u8 0) (.int .u32 0) (.int .u8 0) (.int .u32 0)) ((((Boxes.refl HB12.out.1 HB12.out.2).lo _ _).lo _ _).hi _ _) ?_
     rintro V2 ⟨hc2,hk1,hk2⟩
     clear b0 b1 n0 n1 z0 z1 y0 y1
     have b0:V2.cell? ⟨w.heap.size+1,0,none⟩=some (.int .u8 0):=hk1.cell 0
     have b1:V2.cell? ⟨w.heap.size+1,1,none⟩=some (.int .u32 0):=hk1.cell 1
     have n0:V2.cell? ⟨w.heap.size+2,0,none⟩=some (.int .u8 0):=hk2.cell 0
     have n1:V2.cell? ⟨w.heap.size+2,1,none⟩=some (.int .u32 0):=hk2.cell 1
     clear hk1 hk2
     refine bodyPost_ret (v:= .tuple #[.agg Edg.nil.cells.toArray,.agg Edg.nil.cells.toArray,.int .u8 6]) ?_ rfl (.inr ⟨cs2,free2,rfl,HFL.out,HG.out,?_⟩)
     ·simp [results,Tryz.results119,go_sem,Edg.cells,Edg.nil, *]
     ·exact sto_down (G:=[w.heap.size+1,w.heap.size+2]) HBF.out.1 hF.out HTT.out hc2 (fun k hk=>by have:=HBF.out.2;simp at hk;omega)
end
end Go.Proofs.YtnlmlehcpngcgaaGreat
