/- Contract: zdd.Make of two diagrams. -/
import Derived.Test.YtnlmlehcpngcgaaGreatQan
namespace Go.Proofs.YtnlmlehcpngcgaaGreat
set_option linter.unusedSimpArgs false
set_option linter.unusedVariables false
section
open Go.RowKit Go.Sort
set_option maxRecDepth 100000 in
set_option maxHeartbeats 8000000 in
theorem mk_zdd (F:List Nat) (g n room:Nat) (cs:List (Option Rec)) (free:List Int) (l:Int) (lo hi:Edg) (a b:Dg) (w:World) (h:StoreAt w F g n room cs free) (hfr:FreeOk cs free) (ht:Two cs 2 n l lo hi a b) :
  Calls Tryz.prog 68 #[.pointer (some ⟨g,0,none⟩),.int .i64 l,.agg lo.cells.toArray,.agg hi.cells.toArray] w (EdgeOut 1 w F g n room cs (fun cs' ed=>Unf cs' 2 ed (mkT 2 l a b))):=by
 have hok:=h.ok
 have hlo:lo.Wf:=unf_wf (by have:=hok.n16;omega) (recAt_big hok) ht.lo ht.a.2
 have hhi:hi.Wf:=unf_wf (by have:=hok.n16;omega) (recAt_big hok) ht.hi ht.b.2
 have hu:=h.uniq
 have HST:=Lib.hid h
 have HOK:=Lib.hid hok
 have HU:=Lib.hid hu
 have HFR:=Lib.hid hfr
 have HT:=Lib.hid ht
 have HLW:=Lib.hid hlo
 have HHW:=Lib.hid hhi
 have hF:=Lib.hid h.lt
 obtain ⟨hl1,hl2⟩:=ht.leads
 have HEQ:=Lib.hid (ht.eq_iff hu)
 have HLO0:=Lib.hid ht.lo
 have HHI0:=Lib.hid ht.hi
 have hNL:hi.pos=0↔b = .nil:=unf_nil ht.hi
 have HNL:=Lib.hid hNL
 have hl0:=ht.l0
 have hn16:=hok.n16
 obtain ⟨lt,lp⟩:=lo
 obtain ⟨ht',hp⟩:=hi
 simp only [Edg.cells]
 have H3:Hid (Below w.heap.size w (((w.alloc (.cells #[.int .u8 lt,.int .u32 lp] 48)).alloc (.cells #[.int .u8 ht',.int .u32 hp] 48)).alloc (.cells #[.int .u8 0,.int .u32 0] 48))):=Lib.hid ((((Below.refl _ _).alloc (Nat.le_refl _) _).alloc (by simp) _).alloc (by simp;omega) _)
 obtain ⟨W,hW⟩:∃W,W=(((w.alloc (.cells #[.int .u8 lt,.int .u32 lp] 48)).alloc (.cells #[.int .u8 ht',.int .u32 hp] 48)).alloc (.cells #[.int .u8 0,.int .u32 0] 48)):=⟨_,rfl⟩
 have hB0:Blk W w.heap.size 48 #[.int .u8 lt,.int .u32 lp]:=by rw [hW];exact ((Blk.new w _ _).alloc _).alloc _
 have hB1:Blk W (w.heap.size+1) 48 #[.int .u8 ht',.int .u32 hp]:=by rw [hW];exact (Blk.new_at (by simp) _ _).alloc _
 have hB2:Blk W (w.heap.size+2) 48 #[.int .u8 0,.int .u32 0]:=by rw [hW];exact Blk.new_at (by simp) _ _
 rw [← hW] at H3
 have HSW:=Lib.hid (HST.out.on H3.out)
 have HWS:Hid (W.heap.size=w.heap.size+3):=Lib.hid (by rw [hW];simp)
 have FB:Hid (∀ W',Below W.heap.size W W'→Blk W' w.heap.size 48 #[.int .u8 lt,.int .u32 lp]∧Blk W' (w.heap.size+1) 48 #[.int .u8 ht',.int .u32 hp]∧Blk W' (w.heap.size+2) 48 #[.int .u8 0,.int .u32 0]):=Lib.hid fun W' hW'=>⟨hB0.on' hW',hB1.on' hW',hB2.on' hW'⟩
 have HWW:=Lib.hid hW
 have hLD:∀(e:Edg),e.Wf→leads cs n 2 e (l+1)=true→∀W',Below W.heap.size W W'→Calls Tryz.prog 59 #[.pointer (some ⟨g,0,none⟩),.int .u8 2,.agg e.cells.toArray,.int .i64 (l+1)] W' fun r w'=>r = .returned (.bool true)∧Below W.heap.size W w':=fun e he hl W' hW'=>by
  have h:=leads_any F g n room cs free 2 e (l+1) W' (HSW.out.on hW') (by omega) he
  rw [hl] at h
  exact h.mono fun _ _ ⟨q1,q2⟩=>⟨q1,hW'.trans (q2.mono hW'.size)⟩
 have HLO:=Lib.hid (hLD _ HLW.out hl1)
 have HHI:=Lib.hid (hLD _ HHW.out hl2)
 have HVA:=Lib.hid (fun (W':World) (hW':Below W.heap.size W W')=>storeVars_any F g n room cs free W' (HSW.out.on hW'))
 simp only [Edg.cells] at HLO HHI
 have HFI:=Lib.hid (fun (W':World) (hW':Below W.heap.size W W') (r:Rec) (hr:r.Wf)=>found_zdd F g n room cs free r W' (HSW.out.on hW') HFR.out hr)
 have HL:Hid (0≤l∧l<n):=Lib.hid hl0
 obtain ⟨hl0a,hl0b⟩:=hl0
 have e1:IntKind.i64.wrap (l+1)=l+1:=IntWalk.i64_in _ (by omega)
 have e2:IntKind.u8.wrap l=l:=u8_in _ (by omega)
 have hRT:(if (2:Int)=2∨(2:Int)=4 then b≠ .nil else a≠b)→right ⟨2,l,l,⟨lt,lp⟩,⟨ht',hp⟩⟩ n=true:=ht.right_
 have HRT:=Lib.hid hRT
 have HLD:=Lib.hid (And.intro hl1 hl2)
 have HRW:Hid (Rec.Wf ⟨2,l,l,⟨lt,lp⟩,⟨ht',hp⟩⟩):=Lib.hid ⟨by simp,⟨by simp only;omega,by simp only;omega⟩,⟨by simp only;omega,by simp only;omega⟩,HLW.out,HHW.out⟩
 clear h hfr ht hok hu hlo hhi hl1 hl2 hNL hB0 hB1 hB2 hLD hRT
 by_cases hab:b = .nil
 ·have hred':(hp==0)=true:=by rw [beq_iff_eq];exact HNL.out.2 hab
  have hun:mkT 2 l a b=a:=by unfold mkT;rw [if_neg (by omega),if_pos rfl,if_pos hab]
  have HUN:=Lib.hid hun
  clear hun hab
  go_enter Tryz.func68,Tryz.ntmps68
  go_wp2_with fail
  rw [← HWW.out]
  clear hW
  obtain ⟨hb0,hb1,hb2⟩:=FB.out W (Below.refl _ _)
  have a0:W.cell? ⟨w.heap.size,0,none⟩=some (.int .u8 lt):=hb0.cell 0
  have a1:W.cell? ⟨w.heap.size,1,none⟩=some (.int .u32 lp):=hb0.cell 1
  clear hb0 hb1 hb2
  refine (HVA.out _ (Below.refl _ _)).mono ?_
  rintro e w' ⟨rfl,rfl⟩
  go_wp2_with fail
  refine (HLO.out _ (Below.refl _ _)).mono ?_
  rintro e w1 ⟨rfl,hbel1⟩
  have b0':w1.cell? ⟨w.heap.size+1,0,none⟩=some (.int .u8 ht'):=(FB.out w1 hbel1).2.1.cell 0
  have b1':w1.cell? ⟨w.heap.size+1,1,none⟩=some (.int .u32 hp):=(FB.out w1 hbel1).2.1.cell 1
  clear a0 a1
  go_wp2_with fail
  refine (HHI.out _ hbel1).mono ?_
  rintro e w2 ⟨rfl,hbel2⟩
  clear b0' b1'
  obtain ⟨hb0,hb1,hb2⟩:=FB.out w2 hbel2
  have a0:w2.cell? ⟨w.heap.size,0,none⟩=some (.int .u8 lt):=hb0.cell 0
  have a1:w2.cell? ⟨w.heap.size,1,none⟩=some (.int .u32 lp):=hb0.cell 1
  have b0:w2.cell? ⟨w.heap.size+1,0,none⟩=some (.int .u8 ht'):=hb1.cell 0
  have b1:w2.cell? ⟨w.heap.size+1,1,none⟩=some (.int .u32 hp):=hb1.cell 1
  have n0:w2.cell? ⟨w.heap.size+2,0,none⟩=some (.int .u8 0):=hb2.cell 0
  have n1:w2.cell? ⟨w.heap.size+2,1,none⟩=some (.int .u32 0):=hb2.cell 1
  have z0:=hb2.frozen 0
  have z1:=hb2.frozen 1
  clear hb0 hb1 hb2
  go_wp2_with fail
  refine bodyPost_ret (v:= .tuple #[.agg (⟨lt,lp⟩:Edg).cells.toArray,.int .u8 0]) ?_ rfl (.inl ⟨⟨lt,lp⟩,cs,free,rfl,?_,Grow.refl HFR.out 1,?_⟩)
  ·simp [results,Tryz.results68,go_sem,Edg.cells, *]
  ·rw [HUN.out];exact HLO0.out
  ·exact sto_down H3.out hF.out (sto_below HSW.out hbel2) (chg2 _ (w.heap.size+2) _ _) (fun k hk=>by have:=HWS.out;simp at hk;omega)
 ·have hred':(hp==0)=false:=by rw [beq_eq_false_iff_ne];exact fun e=>hab (HNL.out.1 e)
  have HAB:=Lib.hid hab
  clear hab
  go_enter Tryz.func68,Tryz.ntmps68
  go_wp2_with fail
  rw [← HWW.out]
  clear hW
  obtain ⟨hb0,hb1,hb2⟩:=FB.out W (Below.refl _ _)
  have a0:W.cell? ⟨w.heap.size,0,none⟩=some (.int .u8 lt):=hb0.cell 0
  have a1:W.cell? ⟨w.heap.size,1,none⟩=some (.int .u32 lp):=hb0.cell 1
  clear hb0 hb1 hb2
  refine (HVA.out _ (Below.refl _ _)).mono ?_
  rintro e w' ⟨rfl,rfl⟩
  go_wp2_with fail
  refine (HLO.out _ (Below.refl _ _)).mono ?_
  rintro e w1 ⟨rfl,hbel1⟩
  have b0':w1.cell? ⟨w.heap.size+1,0,none⟩=some (.int .u8 ht'):=(FB.out w1 hbel1).2.1.cell 0
  have b1':w1.cell? ⟨w.heap.size+1,1,none⟩=some (.int .u32 hp):=(FB.out w1 hbel1).2.1.cell 1
  clear a0 a1
  go_wp2_with fail
  refine (HHI.out _ hbel1).mono ?_
  rintro e w2 ⟨rfl,hbel2⟩
  clear b0' b1'
  obtain ⟨hb0,hb1,hb2⟩:=FB.out w2 hbel2
  have a0:w2.cell? ⟨w.heap.size,0,none⟩=some (.int .u8 lt):=hb0.cell 0
  have a1:w2.cell? ⟨w.heap.size,1,none⟩=some (.int .u32 lp):=hb0.cell 1
  have b0:w2.cell? ⟨w.heap.size+1,0,none⟩=some (.int .u8 ht'):=hb1.cell 0
  have b1:w2.cell? ⟨w.heap.size+1,1,none⟩=some (.int .u32 hp):=hb1.cell 1
  have n0:w2.cell? ⟨w.heap.size+2,0,none⟩=some (.int .u8 0):=hb2.cell 0
  have n1:w2.cell? ⟨w.heap.size+2,1,none⟩=some (.int .u32 0):=hb2.cell 1
  have z0:=hb2.frozen 0
  have z1:=hb2.frozen 1
  clear hb0 hb1 hb2
  go_wp2_with fail
  refine (HFI.out _ hbel2 ⟨2,l,l,⟨lt,lp⟩,⟨ht',hp⟩⟩ HRW.out (HRT.out (by rw [if_pos (by decide)];exact HAB.out)) HLD.out.1 HLD.out.2).mono ?_
  rintro e w3 (⟨ed,cs2,free2,rfl,⟨htag,hrec⟩,hgr,hT⟩|⟨cs2,free2,rfl,hfull,hgr,hT⟩)
  all_goals
   have hB2:=(FB.out _ hbel2).2.2.chg hT.2 (fun hm=>by have:=hF.out _ hm;omega)
   have n0':w3.cell? ⟨w.heap.size+2,0,none⟩=some (.int .u8 0):=hB2.cell 0
   have n1':w3.cell? ⟨w.heap.size+2,1,none⟩=some (.int .u32 0):=hB2.cell 1
   have z0':=hB2.frozen 0
   have z1':=hB2.frozen 1
   have HTT:=Lib.hid hT
   clear hT hB2 a0 a1 b0 b1 n0 n1 z0 z1
  ·have HU2:Hid (Unf cs2 2 ed (mkT 2 l a b)):=Lib.hid (by
    unfold mkT
    rw [if_neg (by omega),if_pos rfl,if_neg HAB.out]
    exact ⟨htag,_,hrec,rfl,rfl,rfl,Unf.ext hgr.ext HLO0.out,Unf.ext hgr.ext HHI0.out⟩
    )
   have HG:=Lib.hid hgr
   clear htag hrec hgr
   obtain ⟨et,ep⟩:=ed
   simp only [Edg.cells]
   go_wp2_with fail
   refine bodyPost_ret (v:= .tuple #[.agg (⟨et,ep⟩:Edg).cells.toArray,.int .u8 0]) ?_ rfl (.inl ⟨⟨et,ep⟩,cs2,free2,rfl,HU2.out,HG.out,?_⟩)
   ·simp [results,Tryz.results68,go_sem,Edg.cells, *]
   ·exact sto_down (H3.out.trans (hbel2.mono H3.out.size)) hF.out HTT.out (chg2 _ (w.heap.size+2) _ _) (fun k hk=>by have:=HWS.out;have:=hbel2.size;simp at hk;omega)
  ·have HG:=Lib.hid hgr
   have HFL:=Lib.hid hfull
   clear hgr hfull
   simp only [Edg.cells,Edg.nil]
   go_wp2_with fail
   refine bodyPost_ret (v:= .tuple #[.agg Edg.nil.cells.toArray,.int .u8 6]) ?_ rfl (.inr ⟨cs2,free2,rfl,HFL.out,HG.out,?_⟩)
   ·simp [results,Tryz.results68,go_sem,Edg.cells,Edg.nil, *]
   ·exact sto_down (H3.out.trans (hbel2.mono H3.out.size)) hF.out HTT.out (chg2 _ (w.heap.size+2) _ _) (fun k hk=>by have:=HWS.out;have:=hbel2.size;simp at hk;omega)
end
end Go.Proofs.YtnlmlehcpngcgaaGreat
