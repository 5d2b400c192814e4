/- Contract: cbdd.Make of two diagrams. -/
import Derived.Test.YtnlmlehcpngcgaaGreatQan
namespace Go.Proofs.YtnlmlehcpngcgaaGreat
set_option linter.unusedSimpArgs false
set_option linter.unusedVariables false
section
open Go.RowKit Go.Sort
set_option maxRecDepth 100000 in
set_option maxHeartbeats 8000000 in
theorem mk_cbdd (F:List Nat) (g n room:Nat) (cs:List (Option Rec)) (free:List Int) (l:Int) (lo hi:Edg) (a b:Dg) (w:World) (h:StoreAt w F g n room cs free) (hfr:FreeOk cs free) (ht:Two cs 3 n l lo hi a b) :
  Calls Tryz.prog 69 #[.pointer (some ⟨g,0,none⟩),.int .i64 l,.agg lo.cells.toArray,.agg hi.cells.toArray] w (EdgeOut 1 w F g n room cs (fun cs' ed=>Unf cs' 3 ed (mkT 3 l a b))):=by
 have hok:=h.ok
 have hlo:lo.Wf:=unf_wf (by have:=hok.n16;omega) (recAt_big hok) ht.lo ht.a.2
 have hhi:hi.Wf:=unf_wf (by have:=hok.n16;omega) (recAt_big hok) ht.hi ht.b.2
 have hu:=h.uniq
 have HST:=Lib.hid h
 have HOK:=Lib.hid hok
 have HU:=Lib.hid hu
 have HFR:=Lib.hid hfr
 have HT:=Lib.hid ht
 have HLW:=Lib.hid hlo
 have HHW:=Lib.hid hhi
 have hF:=Lib.hid h.lt
 obtain ⟨hl1,hl2⟩:=ht.leads
 have HEQ:=Lib.hid (ht.eq_iff hu)
 have HLO0:=Lib.hid ht.lo
 have HHI0:=Lib.hid ht.hi
 have hNL:hi.pos=0↔b = .nil:=unf_nil ht.hi
 have HNL:=Lib.hid hNL
 have hl0:=ht.l0
 have hn16:=hok.n16
 obtain ⟨lt,lp⟩:=lo
 obtain ⟨ht',hp⟩:=hi
 simp only [Edg.cells]
 have H3:Hid (Below w.heap.size w (((w.alloc (.cells #[.int .u8 lt,.int .u32 lp] 48)).alloc (.cells #[.int .u8 ht',.int .u32 hp] 48)).alloc (.cells #[.int .u8 0,.int .u32 0] 48))):=Lib.hid ((((Below.refl _ _).alloc (Nat.le_refl _) _).alloc (by simp) _).alloc (by simp;omega) _)
 obtain ⟨W,hW⟩:∃W,W=(((w.alloc (.cells #[.int .u8 lt,.int .u32 lp] 48)).alloc (.cells #[.int .u8 ht',.int .u32 hp] 48)).alloc (.cells #[.int .u8 0,.int .u32 0] 48)):=⟨_,rfl⟩
 have hB0:Blk W w.heap.size 48 #[.int .u8 lt,.int .u32 lp]:=by rw [hW];exact ((Blk.new w _ _).alloc _).alloc _
 have hB1:Blk W (w.heap.size+1) 48 #[.int .u8 ht',.int .u32 hp]:=by rw [hW];exact (Blk.new_at (by simp) _ _).alloc _
 have hB2:Blk W (w.heap.size+2) 48 #[.int .u8 0,.int .u32 0]:=by rw [hW];exact Blk.new_at (by simp) _ _
 rw [← hW] at H3
 have HSW:=Lib.hid (HST.out.on H3.out)
 have HWS:Hid (W.heap.size=w.heap.size+3):=Lib.hid (by rw [hW];simp)
 have FB:Hid (∀ W',Below W.heap.size W W'→Blk W' w.heap.size 48 #[.int .u8 lt,.int .u32 lp]∧Blk W' (w.heap.size+1) 48 #[.int .u8 ht',.int .u32 hp]∧Blk W' (w.heap.size+2) 48 #[.int .u8 0,.int .u32 0]):=Lib.hid fun W' hW'=>⟨hB0.on' hW',hB1.on' hW',hB2.on' hW'⟩
 have HWW:=Lib.hid hW
 have hLD:∀(e:Edg),e.Wf→leads cs n 3 e (l+1)=true→∀W',Below W.heap.size W W'→Calls Tryz.prog 59 #[.pointer (some ⟨g,0,none⟩),.int .u8 3,.agg e.cells.toArray,.int .i64 (l+1)] W' fun r w'=>r = .returned (.bool true)∧Below W.heap.size W w':=fun e he hl W' hW'=>by
  have h:=leads_any F g n room cs free 3 e (l+1) W' (HSW.out.on hW') (by omega) he
  rw [hl] at h
  exact h.mono fun _ _ ⟨q1,q2⟩=>⟨q1,hW'.trans (q2.mono hW'.size)⟩
 have HLO:=Lib.hid (hLD _ HLW.out hl1)
 have HHI:=Lib.hid (hLD _ HHW.out hl2)
 have HVA:=Lib.hid (fun (W':World) (hW':Below W.heap.size W W')=>storeVars_any F g n room cs free W' (HSW.out.on hW'))
 simp only [Edg.cells] at HLO HHI
 have HFI:=Lib.hid (fun (W':World) (hW':Below W.heap.size W W') (r:Rec) (hr:r.Wf)=>found_cbdd F g n room cs free r W' (HSW.out.on hW') HFR.out hr)
 have HFC:=Lib.hid (fun (W':World) (hW':Below W.heap.size W W') (r:Rec) (hr:r.Wf) h1 h2 h3=>(found_cbdd F g n room cs free r W' (HSW.out.on hW') HFR.out hr h1 h2 h3).mono fun e w' h=>(And.intro hW' h:Below W.heap.size W W'∧_))
 have HL:Hid (0≤l∧l<n):=Lib.hid hl0
 obtain ⟨hl0a,hl0b⟩:=hl0
 have e1:IntKind.i64.wrap (l+1)=l+1:=IntWalk.i64_in _ (by omega)
 have e2:IntKind.u8.wrap l=l:=u8_in _ (by omega)
 have hRT:(if (3:Int)=2∨(3:Int)=4 then b≠ .nil else a≠b)→right ⟨3,l,l,⟨lt,lp⟩,⟨ht',hp⟩⟩ n=true:=ht.right_
 have HRT:=Lib.hid hRT
 have HLD:=Lib.hid (And.intro hl1 hl2)
 have HRW:Hid (Rec.Wf ⟨3,l,l,⟨lt,lp⟩,⟨ht',hp⟩⟩):=Lib.hid ⟨by simp,⟨by simp only;omega,by simp only;omega⟩,⟨by simp only;omega,by simp only;omega⟩,HLW.out,HHW.out⟩
 clear h hfr ht hok hu hlo hhi hl1 hl2 hNL hB0 hB1 hB2 hLD hRT
 by_cases hab:a=b
 ·have hEQ:=eql_edge lt lp ht' hp true (by rw [decide_eq_true_eq];exact HEQ.out.2 hab)
  have hun:mkT 3 l a b=a:=by unfold mkT;rw [if_neg (by omega),if_neg (by omega),if_pos rfl];rw [if_pos hab]
  have HUN:=Lib.hid hun
  clear hun hab
  go_enter Tryz.func69,Tryz.ntmps69
  go_wp2_with fail
  rw [← HWW.out]
  clear hW
  obtain ⟨hb0,hb1,hb2⟩:=FB.out W (Below.refl _ _)
  have a0:W.cell? ⟨w.heap.size,0,none⟩=some (.int .u8 lt):=hb0.cell 0
  have a1:W.cell? ⟨w.heap.size,1,none⟩=some (.int .u32 lp):=hb0.cell 1
  clear hb0 hb1 hb2
  refine (HVA.out _ (Below.refl _ _)).mono ?_
  rintro e w' ⟨rfl,rfl⟩
  go_wp2_with fail
  refine (HLO.out _ (Below.refl _ _)).mono ?_
  rintro e w1 ⟨rfl,hbel1⟩
  have b0':w1.cell? ⟨w.heap.size+1,0,none⟩=some (.int .u8 ht'):=(FB.out w1 hbel1).2.1.cell 0
  have b1':w1.cell? ⟨w.heap.size+1,1,none⟩=some (.int .u32 hp):=(FB.out w1 hbel1).2.1.cell 1
  clear a0 a1
  go_wp2_with fail
  refine (HHI.out _ hbel1).mono ?_
  rintro e w2 ⟨rfl,hbel2⟩
  clear b0' b1'
  obtain ⟨hb0,hb1,hb2⟩:=FB.out w2 hbel2
  have a0:w2.cell? ⟨w.heap.size,0,none⟩=some (.int .u8 lt):=hb0.cell 0
  have a1:w2.cell? ⟨w.heap.size,1,none⟩=some (.int .u32 lp):=hb0.cell 1
  have b0:w2.cell? ⟨w.heap.size+1,0,none⟩=some (.int .u8 ht'):=hb1.cell 0
  have b1:w2.cell? ⟨w.heap.size+1,1,none⟩=some (.int .u32 hp):=hb1.cell 1
  have n0:w2.cell? ⟨w.heap.size+2,0,none⟩=some (.int .u8 0):=hb2.cell 0
  have n1:w2.cell? ⟨w.heap.size+2,1,none⟩=some (.int .u32 0):=hb2.cell 1
  have z0:=hb2.frozen 0
  have z1:=hb2.frozen 1
  clear hb0 hb1 hb2
  go_wp2_with fail
  refine bodyPost_ret (v:= .tuple #[.agg (⟨lt,lp⟩:Edg).cells.toArray,.int .u8 0]) ?_ rfl (.inl ⟨⟨lt,lp⟩,cs,free,rfl,?_,Grow.refl HFR.out 1,?_⟩)
  ·simp [results,Tryz.results69,go_sem,Edg.cells, *]
  ·rw [HUN.out];exact HLO0.out
  ·exact sto_down H3.out hF.out (sto_below HSW.out hbel2) (chg2 _ (w.heap.size+2) _ _) (fun k hk=>by have:=HWS.out;simp at hk;omega)
 ·have hEQ:=eql_edge lt lp ht' hp false (by rw [decide_eq_false_iff_not];exact fun e=>hab (HEQ.out.1 e))
  have HAB:=Lib.hid hab
  clear hab
  cases hrec:recAt cs lp with
  | none=>
   have hmt:mkT 3 l a b = .node 0 l l a b:=by
    rcases unf_rec_none HLO0.out hrec with rfl|⟨t,rfl⟩
    all_goals
     unfold mkT
     rw [if_neg (by omega),if_neg (by omega),if_pos rfl]
     rw [if_neg HAB.out]
   have HMT:=Lib.hid hmt
   have HREC:=Lib.hid hrec
   clear hmt hrec
   go_enter Tryz.func69,Tryz.ntmps69
   go_wp2_with fail
   rw [← HWW.out]
   clear hW
   obtain ⟨hb0,hb1,hb2⟩:=FB.out W (Below.refl _ _)
   have a0:W.cell? ⟨w.heap.size,0,none⟩=some (.int .u8 lt):=hb0.cell 0
   have a1:W.cell? ⟨w.heap.size,1,none⟩=some (.int .u32 lp):=hb0.cell 1
   clear hb0 hb1 hb2
   refine (HVA.out _ (Below.refl _ _)).mono ?_
   rintro e w' ⟨rfl,rfl⟩
   go_wp2_with fail
   refine (HLO.out _ (Below.refl _ _)).mono ?_
   rintro e w1 ⟨rfl,hbel1⟩
   have b0':w1.cell? ⟨w.heap.size+1,0,none⟩=some (.int .u8 ht'):=(FB.out w1 hbel1).2.1.cell 0
   have b1':w1.cell? ⟨w.heap.size+1,1,none⟩=some (.int .u32 hp):=(FB.out w1 hbel1).2.1.cell 1
   clear a0 a1
   go_wp2_with fail
   refine (HHI.out _ hbel1).mono ?_
   rintro e w2 ⟨rfl,hbel2⟩
   clear b0' b1'
   obtain ⟨hb0,hb1,hb2⟩:=FB.out w2 hbel2
   have a0:w2.cell? ⟨w.heap.size,0,none⟩=some (.int .u8 lt):=hb0.cell 0
   have a1:w2.cell? ⟨w.heap.size,1,none⟩=some (.int .u32 lp):=hb0.cell 1
   have b0:w2.cell? ⟨w.heap.size+1,0,none⟩=some (.int .u8 ht'):=hb1.cell 0
   have b1:w2.cell? ⟨w.heap.size+1,1,none⟩=some (.int .u32 hp):=hb1.cell 1
   have n0:w2.cell? ⟨w.heap.size+2,0,none⟩=some (.int .u8 0):=hb2.cell 0
   have n1:w2.cell? ⟨w.heap.size+2,1,none⟩=some (.int .u32 0):=hb2.cell 1
   have z0:=hb2.frozen 0
   have z1:=hb2.frozen 1
   clear hb0 hb1 hb2
   have q0:w.heap.size<w2.heap.size:=by have:=HWS.out;have:=hbel2.size;omega
   have q1:w.heap.size+1<w2.heap.size:=by have:=HWS.out;have:=hbel2.size;omega
   have q2:w.heap.size+2<w2.heap.size:=by have:=HWS.out;have:=hbel2.size;omega
   go_wp2_with fail
   obtain ⟨X,hX⟩:∃X,X=w2.alloc (.cells #[.int .u8 3,.int .u8 l,.int .u8 l,.int .u8 lt,.int .u32 lp,.int .u8 ht',.int .u32 hp] 78):=⟨_,rfl⟩
   have hbX:Below W.heap.size W X:=by rw [hX];exact hbel2.alloc hbel2.size _
   have hXB:Blk X w2.heap.size 78 #[.int .u8 3,.int .u8 l,.int .u8 l,.int .u8 lt,.int .u32 lp,.int .u8 ht',.int .u32 hp]:=by rw [hX];exact Blk.new _ _ _
   have HXX:=Lib.hid hX
   rw [← HXX.out]
   clear hX
   refine (storeGet_any F g n room cs free lp X (HSW.out.on hbX) HLW.out.2.2.1 HLW.out.2.2.2).mono ?_
   rintro e w3 ⟨rfl,hbel3⟩
   have hb3:Below W.heap.size W w3:=hbX.trans (hbel3.mono hbX.size)
   have hX3:=hXB.onB hbel3
   clear a0 a1 b0 b1 n0 n1 z0 z1
   obtain ⟨hb0,hb1,hb2⟩:=FB.out w3 hb3
   have a0:w3.cell? ⟨w.heap.size,0,none⟩=some (.int .u8 lt):=hb0.cell 0
   have a1:w3.cell? ⟨w.heap.size,1,none⟩=some (.int .u32 lp):=hb0.cell 1
   have b0:w3.cell? ⟨w.heap.size+1,0,none⟩=some (.int .u8 ht'):=hb1.cell 0
   have b1:w3.cell? ⟨w.heap.size+1,1,none⟩=some (.int .u32 hp):=hb1.cell 1
   have n0:w3.cell? ⟨w.heap.size+2,0,none⟩=some (.int .u8 0):=hb2.cell 0
   have n1:w3.cell? ⟨w.heap.size+2,1,none⟩=some (.int .u32 0):=hb2.cell 1
   have z0:=hb2.frozen 0
   have z1:=hb2.frozen 1
   have x0:w3.cell? ⟨w2.heap.size,0,none⟩=some (.int .u8 3):=hX3.cell 0
   have x1:w3.cell? ⟨w2.heap.size,1,none⟩=some (.int .u8 l):=hX3.cell 1
   have x2:w3.cell? ⟨w2.heap.size,2,none⟩=some (.int .u8 l):=hX3.cell 2
   have x3:w3.cell? ⟨w2.heap.size,3,none⟩=some (.int .u8 lt):=hX3.cell 3
   have x4:w3.cell? ⟨w2.heap.size,4,none⟩=some (.int .u32 lp):=hX3.cell 4
   have x5:w3.cell? ⟨w2.heap.size,5,none⟩=some (.int .u8 ht'):=hX3.cell 5
   have x6:w3.cell? ⟨w2.heap.size,6,none⟩=some (.int .u32 hp):=hX3.cell 6
   have y2:=hX3.frozen 2
   have y3:=hX3.frozen 3
   have y4:=hX3.frozen 4
   have y5:=hX3.frozen 5
   have y6:=hX3.frozen 6
   have q3:w2.heap.size<w3.heap.size:=hX3.lt
   have q4:w.heap.size<w3.heap.size:=by omega
   have q5:w.heap.size+1<w3.heap.size:=by omega
   have q6:w.heap.size+2<w3.heap.size:=by omega
   have HB3:=Lib.hid hb3
   have HX3:=Lib.hid hX3
   have HWX:Hid (W.heap.size≤w2.heap.size):=Lib.hid hbel2.size
   clear hb0 hb1 hb2 hX3 hXB hbX hbel3 hb3 hbel2 hbel1
   rw [HREC.out]
   unfold getR Rec.cells Rec.nil Edg.nil
   go_wp2_with fail
   refine (HFC.out _ (HB3.out.alloc HB3.out.size _) ⟨3,l,l,⟨lt,lp⟩,⟨ht',hp⟩⟩ HRW.out (HRT.out (by rw [if_neg (by decide)];exact HAB.out)) HLD.out.1 HLD.out.2).mono ?_
   rintro e w5 ⟨hbF,h5⟩
   rcases h5 with (⟨ed,cs2,free2,rfl,⟨htag,hrec2⟩,hgr,hT⟩|⟨cs2,free2,rfl,hfull,hgr,hT⟩)
   all_goals
    have hB2:=(FB.out _ hbF).2.2.chg hT.2 (fun hm=>by have:=hF.out _ hm;omega)
    have n0':w5.cell? ⟨w.heap.size+2,0,none⟩=some (.int .u8 0):=hB2.cell 0
    have n1':w5.cell? ⟨w.heap.size+2,1,none⟩=some (.int .u32 0):=hB2.cell 1
    have z0':=hB2.frozen 0
    have z1':=hB2.frozen 1
    have HTT:=Lib.hid hT
    have HBF:=Lib.hid hbF
    clear hT hB2 hbF
   ·have HU2:Hid (Unf cs2 3 ed (mkT 3 l a b)):=Lib.hid (by
     rw [HMT.out]
     exact ⟨htag,_,hrec2,rfl,rfl,rfl,Unf.ext hgr.ext HLO0.out,Unf.ext hgr.ext HHI0.out⟩
     )
    have HG:=Lib.hid hgr
    clear htag hrec2 hgr
    obtain ⟨et,ep⟩:=ed
    simp only [Edg.cells]
    go_wp2_with fail
    refine bodyPost_ret (v:= .tuple #[.agg (⟨et,ep⟩:Edg).cells.toArray,.int .u8 0]) ?_ rfl (.inl ⟨⟨et,ep⟩,cs2,free2,rfl,HU2.out,HG.out,?_⟩)
    ·simp [results,Tryz.results69,go_sem,Edg.cells, *]
    ·exact sto_down (H3.out.trans (HBF.out.mono H3.out.size)) hF.out HTT.out (chg2 _ (w.heap.size+2) _ _) (fun k hk=>by have:=HWS.out;have:=HBF.out.size;simp at hk;omega)
   ·have HG:=Lib.hid hgr
    have HFL:=Lib.hid hfull
    clear hgr hfull
    simp only [Edg.cells,Edg.nil]
    go_wp2_with fail
    refine bodyPost_ret (v:= .tuple #[.agg Edg.nil.cells.toArray,.int .u8 6]) ?_ rfl (.inr ⟨cs2,free2,rfl,HFL.out,HG.out,?_⟩)
    ·simp [results,Tryz.results69,go_sem,Edg.cells,Edg.nil, *]
    ·exact sto_down (H3.out.trans (HBF.out.mono H3.out.size)) hF.out HTT.out (chg2 _ (w.heap.size+2) _ _) (fun k hk=>by have:=HWS.out;have:=HBF.out.size;simp at hk;omega)
  | some r=>
   obtain ⟨a0,a1,hae,hrf,hu0,hu1⟩:=unf_rec_some HLO0.out hrec
   have hrwf:=recAt_wf HOK.out hrec
   have hga:=HT.out.a.2
   have HGA:=Lib.hid hga
   obtain ⟨rf,rt,rb,⟨r1,r2⟩,⟨r3,r4⟩⟩:=r
   simp only at hae hrf hu0 hu1
   subst hrf
   obtain ⟨⟨_,_⟩,⟨w1a,w1b⟩,⟨w2a,w2b⟩,w3a,w3b⟩:=hrwf
   simp only at w1a w1b w2a w2b
   have hwt:IntKind.i64.wrap rt=rt:=IntWalk.i64_in _ (by omega)
   have HU0:=Lib.hid hu0
   have HU1:=Lib.hid hu1
   have HAE:=Lib.hid hae
   have HREC:=Lib.hid hrec
   have HW3:=Lib.hid (And.intro w3a w3b)
   by_cases hc:rt=l+1∧a1=b
   ·obtain ⟨hc1,hc2⟩:=hc
    have hEQ2:=eql_edge r3 r4 ht' hp true (by rw [decide_eq_true_eq];exact unf_inj HU.out hu1 (hc2▸HHI0.out))
    have hc1':(rt==l+1)=true:=by simpa using hc1
    have HC2:=Lib.hid hc2
    have HC1:=Lib.hid hc1
    obtain ⟨⟨g1,g2,g3,g4⟩,g5,g6,g7,g8⟩:Gd 3 n (.node lt rt rb a0 a1):=by rw [← HAE.out];exact HGA.out
    have HUC:Hid (Unf cs 3 ⟨ht',hp⟩ a1):=Lib.hid (by rw [HC2.out];exact HHI0.out)
    have hri:right ⟨3,l,rb,⟨r1,r2⟩,⟨ht',hp⟩⟩ n=true:=right_of (by have:=HOK.out.n16;omega) (by omega) ⟨by have:=HL.out;omega,by omega,g3,.inr (.inl rfl)⟩ HU0.out HUC.out g6 g7 (by rw [if_neg (by decide)];rw [if_neg (by decide)] at g8;exact g8)
    have hl1:leads cs n 3 ⟨r1,r2⟩ (rb+1)=true:=leads_of (by have:=HOK.out.n16;omega) (by omega) ⟨by omega,by omega⟩ HU0.out g6.1 g6.2
    have hl2:leads cs n 3 ⟨ht',hp⟩ (rb+1)=true:=leads_of (by have:=HOK.out.n16;omega) (by omega) ⟨by omega,by omega⟩ HUC.out g7.1 g7.2
    have hwf:Rec.Wf ⟨3,l,rb,⟨r1,r2⟩,⟨ht',hp⟩⟩:=⟨by simp,⟨by have:=HL.out;first |omega|(simp only;omega),by first |omega|(simp only;omega)⟩,⟨by first |omega|(simp only;omega),by first |omega|(simp only;omega)⟩,HW3.out.1,HHW.out⟩
    have HRI:=Lib.hid hri
    have HLL:=Lib.hid (And.intro hl1 hl2)
    have HWF:=Lib.hid hwf
    clear g1 g2 g3 g4 g5 g6 g7 g8 hri hl1 hl2 hwf hu0 hu1 hc1 hc2 hae hga hrec w3a w3b
    go_enter Tryz.func69,Tryz.ntmps69
    go_wp2_with fail
    rw [← HWW.out]
    clear hW
    obtain ⟨hb0,hb1,hb2⟩:=FB.out W (Below.refl _ _)
    have a0:W.cell? ⟨w.heap.size,0,none⟩=some (.int .u8 lt):=hb0.cell 0
    have a1:W.cell? ⟨w.heap.size,1,none⟩=some (.int .u32 lp):=hb0.cell 1
    clear hb0 hb1 hb2
    refine (HVA.out _ (Below.refl _ _)).mono ?_
    rintro e w' ⟨rfl,rfl⟩
    go_wp2_with fail
    refine (HLO.out _ (Below.refl _ _)).mono ?_
    rintro e w1 ⟨rfl,hbel1⟩
    have b0':w1.cell? ⟨w.heap.size+1,0,none⟩=some (.int .u8 ht'):=(FB.out w1 hbel1).2.1.cell 0
    have b1':w1.cell? ⟨w.heap.size+1,1,none⟩=some (.int .u32 hp):=(FB.out w1 hbel1).2.1.cell 1
    clear a0 a1
    go_wp2_with fail
    refine (HHI.out _ hbel1).mono ?_
    rintro e w2 ⟨rfl,hbel2⟩
    clear b0' b1'
    obtain ⟨hb0,hb1,hb2⟩:=FB.out w2 hbel2
    have a0:w2.cell? ⟨w.heap.size,0,none⟩=some (.int .u8 lt):=hb0.cell 0
    have a1:w2.cell? ⟨w.heap.size,1,none⟩=some (.int .u32 lp):=hb0.cell 1
    have b0:w2.cell? ⟨w.heap.size+1,0,none⟩=some (.int .u8 ht'):=hb1.cell 0
    have b1:w2.cell? ⟨w.heap.size+1,1,none⟩=some (.int .u32 hp):=hb1.cell 1
    have n0:w2.cell? ⟨w.heap.size+2,0,none⟩=some (.int .u8 0):=hb2.cell 0
    have n1:w2.cell? ⟨w.heap.size+2,1,none⟩=some (.int .u32 0):=hb2.cell 1
    have z0:=hb2.frozen 0
    have z1:=hb2.frozen 1
    clear hb0 hb1 hb2
    have q0:w.heap.size<w2.heap.size:=by have:=HWS.out;have:=hbel2.size;omega
    have q1:w.heap.size+1<w2.heap.size:=by have:=HWS.out;have:=hbel2.size;omega
    have q2:w.heap.size+2<w2.heap.size:=by have:=HWS.out;have:=hbel2.size;omega
    go_wp2_with fail
    obtain ⟨X,hX⟩:∃X,X=w2.alloc (.cells #[.int .u8 3,.int .u8 l,.int .u8 l,.int .u8 lt,.int .u32 lp,.int .u8 ht',.int .u32 hp] 78):=⟨_,rfl⟩
    have hbX:Below W.heap.size W X:=by rw [hX];exact hbel2.alloc hbel2.size _
    have hXB:Blk X w2.heap.size 78 #[.int .u8 3,.int .u8 l,.int .u8 l,.int .u8 lt,.int .u32 lp,.int .u8 ht',.int .u32 hp]:=by rw [hX];exact Blk.new _ _ _
    have HXX:=Lib.hid hX
    rw [← HXX.out]
    clear hX
    refine (storeGet_any F g n room cs free lp X (HSW.out.on hbX) HLW.out.2.2.1 HLW.out.2.2.2).mono ?_
    rintro e w3 ⟨rfl,hbel3⟩
    have hb3:Below W.heap.size W w3:=hbX.trans (hbel3.mono hbX.size)
    have hX3:=hXB.onB hbel3
    clear a0 a1 b0 b1 n0 n1 z0 z1
    obtain ⟨hb0,hb1,hb2⟩:=FB.out w3 hb3
    have a0:w3.cell? ⟨w.heap.size,0,none⟩=some (.int .u8 lt):=hb0.cell 0
    have a1:w3.cell? ⟨w.heap.size,1,none⟩=some (.int .u32 lp):=hb0.cell 1
    have b0:w3.cell? ⟨w.heap.size+1,0,none⟩=some (.int .u8 ht'):=hb1.cell 0
    have b1:w3.cell? ⟨w.heap.size+1,1,none⟩=some (.int .u32 hp):=hb1.cell 1
    have n0:w3.cell? ⟨w.heap.size+2,0,none⟩=some (.int .u8 0):=hb2.cell 0
    have n1:w3.cell? ⟨w.heap.size+2,1,none⟩=some (.int .u32 0):=hb2.cell 1
    have z0:=hb2.frozen 0
    have z1:=hb2.frozen 1
    have x0:w3.cell? ⟨w2.heap.size,0,none⟩=some (.int .u8 3):=hX3.cell 0
    have x1:w3.cell? ⟨w2.heap.size,1,none⟩=some (.int .u8 l):=hX3.cell 1
    have x2:w3.cell? ⟨w2.heap.size,2,none⟩=some (.int .u8 l):=hX3.cell 2
    have x3:w3.cell? ⟨w2.heap.size,3,none⟩=some (.int .u8 lt):=hX3.cell 3
    have x4:w3.cell? ⟨w2.heap.size,4,none⟩=some (.int .u32 lp):=hX3.cell 4
    have x5:w3.cell? ⟨w2.heap.size,5,none⟩=some (.int .u8 ht'):=hX3.cell 5
    have x6:w3.cell? ⟨w2.heap.size,6,none⟩=some (.int .u32 hp):=hX3.cell 6
    have y2:=hX3.frozen 2
    have y3:=hX3.frozen 3
    have y4:=hX3.frozen 4
    have y5:=hX3.frozen 5
    have y6:=hX3.frozen 6
    have q3:w2.heap.size<w3.heap.size:=hX3.lt
    have q4:w.heap.size<w3.heap.size:=by omega
    have q5:w.heap.size+1<w3.heap.size:=by omega
    have q6:w.heap.size+2<w3.heap.size:=by omega
    have HB3:=Lib.hid hb3
    have HX3:=Lib.hid hX3
    have HWX:Hid (W.heap.size≤w2.heap.size):=Lib.hid hbel2.size
    clear hb0 hb1 hb2 hX3 hXB hbX hbel3 hb3 hbel2 hbel1
    have X3:Blk w3 w2.heap.size 78 #[.int .u8 3,.int .u8 l,.int .u8 l,.int .u8 lt,.int .u32 lp,.int .u8 ht',.int .u32 hp]:=HX3.out
    rw [HREC.out]
    unfold getR Rec.cells
    go_wp2_with fail
    refine wp_gen (fun V=>Below W.heap.size W V∧Blk V w2.heap.size 78 #[.int .u8 3,.int .u8 l,.int .u8 l,.int .u8 lt,.int .u32 lp,.int .u8 ht',.int .u32 hp]∧Blk V w3.heap.size 78 #[.int .u8 3,.int .u8 rt,.int .u8 rb,.int .u8 r1,.int .u32 r2,.int .u8 r3,.int .u32 r4]) ⟨HB3.out.alloc HB3.out.size _,X3.alloc _,Blk.new _ _ _⟩ ?_
    rintro V ⟨hV,hVX,hVR⟩
    clear a0 a1 b0 b1 n0 n1 z0 z1 x0 x1 x2 x3 x4 x5 x6 y2 y3 y4 y5 y6 X3
    have r2':V.cell? ⟨w3.heap.size,2,none⟩=some (.int .u8 rb):=hVR.cell 2
    have r3':V.cell? ⟨w3.heap.size,3,none⟩=some (.int .u8 r1):=hVR.cell 3
    have r4':V.cell? ⟨w3.heap.size,4,none⟩=some (.int .u32 r2):=hVR.cell 4
    have r5':V.cell? ⟨w3.heap.size,5,none⟩=some (.int .u8 r3):=hVR.cell 5
    have r6':V.cell? ⟨w3.heap.size,6,none⟩=some (.int .u32 r4):=hVR.cell 6
    have x0:V.cell? ⟨w2.heap.size,0,none⟩=some (.int .u8 3):=hVX.cell 0
    have x1:V.cell? ⟨w2.heap.size,1,none⟩=some (.int .u8 l):=hVX.cell 1
    have x2:V.cell? ⟨w2.heap.size,2,none⟩=some (.int .u8 l):=hVX.cell 2
    have x3:V.cell? ⟨w2.heap.size,3,none⟩=some (.int .u8 lt):=hVX.cell 3
    have x4:V.cell? ⟨w2.heap.size,4,none⟩=some (.int .u32 lp):=hVX.cell 4
    have x5:V.cell? ⟨w2.heap.size,5,none⟩=some (.int .u8 ht'):=hVX.cell 5
    have x6:V.cell? ⟨w2.heap.size,6,none⟩=some (.int .u32 hp):=hVX.cell 6
    have y2:=hVX.frozen 2
    have y3:=hVX.frozen 3
    have y4:=hVX.frozen 4
    have y5:=hVX.frozen 5
    have y6:=hVX.frozen 6
    have HV:=Lib.hid hV
    have HVX:=Lib.hid hVX
    clear hV hVX hVR
    go_region
    go_wp2_with fail
    refine (HFC.out _ ((((HV.out.setCell (p:=⟨w2.heap.size,_,none⟩) HWX.out _).setCell (p:=⟨w2.heap.size,_,none⟩) HWX.out _).setCell (p:=⟨w2.heap.size,_,none⟩) HWX.out _).drew) ⟨3,l,rb,⟨r1,r2⟩,⟨ht',hp⟩⟩ HWF.out HRI.out HLL.out.1 HLL.out.2).mono ?_
    rintro e w5 ⟨hbF,h5⟩
    rcases h5 with (⟨ed,cs2,free2,rfl,⟨htag,hrec2⟩,hgr,hT⟩|⟨cs2,free2,rfl,hfull,hgr,hT⟩)
    all_goals
     have hB2:=(FB.out _ hbF).2.2.chg hT.2 (fun hm=>by have:=hF.out _ hm;omega)
     have n0':w5.cell? ⟨w.heap.size+2,0,none⟩=some (.int .u8 0):=hB2.cell 0
     have n1':w5.cell? ⟨w.heap.size+2,1,none⟩=some (.int .u32 0):=hB2.cell 1
     have z0':=hB2.frozen 0
     have z1':=hB2.frozen 1
     have HTT:=Lib.hid hT
     have HBF:=Lib.hid hbF
     clear hT hB2 hbF
    ·have HU2:Hid (Unf cs2 3 ed (mkT 3 l a b)):=Lib.hid (by
      unfold mkT
      rw [if_neg (by omega),if_neg (by omega),if_pos rfl]
      rw [if_neg HAB.out,HAE.out]
      simp only
      rw [if_pos ⟨HC1.out,HC2.out⟩]
      exact ⟨htag,_,hrec2,rfl,rfl,rfl,Unf.ext hgr.ext HU0.out,Unf.ext hgr.ext HUC.out⟩
      )
     have HG:=Lib.hid hgr
     clear htag hrec2 hgr
     obtain ⟨et,ep⟩:=ed
     simp only [Edg.cells]
     go_wp2_with fail
     refine bodyPost_ret (v:= .tuple #[.agg (⟨et,ep⟩:Edg).cells.toArray,.int .u8 0]) ?_ rfl (.inl ⟨⟨et,ep⟩,cs2,free2,rfl,HU2.out,HG.out,?_⟩)
     ·simp [results,Tryz.results69,go_sem,Edg.cells, *]
     ·exact sto_down (H3.out.trans (HBF.out.mono H3.out.size)) hF.out HTT.out (chg2 _ (w.heap.size+2) _ _) (fun k hk=>by have:=HWS.out;have:=HBF.out.size;simp at hk;omega)
    ·have HG:=Lib.hid hgr
     have HFL:=Lib.hid hfull
     clear hgr hfull
     simp only [Edg.cells,Edg.nil]
     go_wp2_with fail
     refine bodyPost_ret (v:= .tuple #[.agg Edg.nil.cells.toArray,.int .u8 6]) ?_ rfl (.inr ⟨cs2,free2,rfl,HFL.out,HG.out,?_⟩)
     ·simp [results,Tryz.results69,go_sem,Edg.cells,Edg.nil, *]
     ·exact sto_down (H3.out.trans (HBF.out.mono H3.out.size)) hF.out HTT.out (chg2 _ (w.heap.size+2) _ _) (fun k hk=>by have:=HWS.out;have:=HBF.out.size;simp at hk;omega)
   ·have hcond:(rt==l+1)=false∨((rt==l+1)=true∧¬(⟨r3,r4⟩:Edg)=⟨ht',hp⟩):=by
     cases h1:rt==l+1 with
     | false=>exact .inl rfl
     | true=>exact .inr ⟨rfl,fun e=>hc ⟨by simpa using h1,unf_fun (e▸HU1.out) HHI0.out⟩⟩
    have hmt:mkT 3 l a b = .node 0 l l a b:=by
     unfold mkT
     rw [if_neg (by omega),if_neg (by omega),if_pos rfl]
     rw [if_neg HAB.out,HAE.out]
     simp only
     rw [if_neg hc]
    have HMT:=Lib.hid hmt
    clear hc hmt hae hu0 hu1 hga hrec w3a w3b
    rcases hcond with hc1|⟨hc1,hc2⟩
    ·skip
     go_enter Tryz.func69,Tryz.ntmps69
     go_wp2_with fail
     rw [← HWW.out]
     clear hW
     obtain ⟨hb0,hb1,hb2⟩:=FB.out W (Below.refl _ _)
     have a0:W.cell? ⟨w.heap.size,0,none⟩=some (.int .u8 lt):=hb0.cell 0
     have a1:W.cell? ⟨w.heap.size,1,none⟩=some (.int .u32 lp):=hb0.cell 1
     clear hb0 hb1 hb2
     refine (HVA.out _ (Below.refl _ _)).mono ?_
     rintro e w' ⟨rfl,rfl⟩
     go_wp2_with fail
     refine (HLO.out _ (Below.refl _ _)).mono ?_
     rintro e w1 ⟨rfl,hbel1⟩
     have b0':w1.cell? ⟨w.heap.size+1,0,none⟩=some (.int .u8 ht'):=(FB.out w1 hbel1).2.1.cell 0
     have b1':w1.cell? ⟨w.heap.size+1,1,none⟩=some (.int .u32 hp):=(FB.out w1 hbel1).2.1.cell 1
     clear a0 a1
     go_wp2_with fail
     refine (HHI.out _ hbel1).mono ?_
     rintro e w2 ⟨rfl,hbel2⟩
     clear b0' b1'
     obtain ⟨hb0,hb1,hb2⟩:=FB.out w2 hbel2
     have a0:w2.cell? ⟨w.heap.size,0,none⟩=some (.int .u8 lt):=hb0.cell 0
     have a1:w2.cell? ⟨w.heap.size,1,none⟩=some (.int .u32 lp):=hb0.cell 1
     have b0:w2.cell? ⟨w.heap.size+1,0,none⟩=some (.int .u8 ht'):=hb1.cell 0
     have b1:w2.cell? ⟨w.heap.size+1,1,none⟩=some (.int .u32 hp):=hb1.cell 1
     have n0:w2.cell? ⟨w.heap.size+2,0,none⟩=some (.int .u8 0):=hb2.cell 0
     have n1:w2.cell? ⟨w.heap.size+2,1,none⟩=some (.int .u32 0):=hb2.cell 1
     have z0:=hb2.frozen 0
     have z1:=hb2.frozen 1
     clear hb0 hb1 hb2
     have q0:w.heap.size<w2.heap.size:=by have:=HWS.out;have:=hbel2.size;omega
     have q1:w.heap.size+1<w2.heap.size:=by have:=HWS.out;have:=hbel2.size;omega
     have q2:w.heap.size+2<w2.heap.size:=by have:=HWS.out;have:=hbel2.size;omega
     go_wp2_with fail
     obtain ⟨X,hX⟩:∃X,X=w2.alloc (.cells #[.int .u8 3,.int .u8 l,.int .u8 l,.int .u8 lt,.int .u32 lp,.int .u8 ht',.int .u32 hp] 78):=⟨_,rfl⟩
     have hbX:Below W.heap.size W X:=by rw [hX];exact hbel2.alloc hbel2.size _
     have hXB:Blk X w2.heap.size 78 #[.int .u8 3,.int .u8 l,.int .u8 l,.int .u8 lt,.int .u32 lp,.int .u8 ht',.int .u32 hp]:=by rw [hX];exact Blk.new _ _ _
     have HXX:=Lib.hid hX
     rw [← HXX.out]
     clear hX
     refine (storeGet_any F g n room cs free lp X (HSW.out.on hbX) HLW.out.2.2.1 HLW.out.2.2.2).mono ?_
     rintro e w3 ⟨rfl,hbel3⟩
     have hb3:Below W.heap.size W w3:=hbX.trans (hbel3.mono hbX.size)
     have hX3:=hXB.onB hbel3
     clear a0 a1 b0 b1 n0 n1 z0 z1
     obtain ⟨hb0,hb1,hb2⟩:=FB.out w3 hb3
     have a0:w3.cell? ⟨w.heap.size,0,none⟩=some (.int .u8 lt):=hb0.cell 0
     have a1:w3.cell? ⟨w.heap.size,1,none⟩=some (.int .u32 lp):=hb0.cell 1
     have b0:w3.cell? ⟨w.heap.size+1,0,none⟩=some (.int .u8 ht'):=hb1.cell 0
     have b1:w3.cell? ⟨w.heap.size+1,1,none⟩=some (.int .u32 hp):=hb1.cell 1
     have n0:w3.cell? ⟨w.heap.size+2,0,none⟩=some (.int .u8 0):=hb2.cell 0
     have n1:w3.cell? ⟨w.heap.size+2,1,none⟩=some (.int .u32 0):=hb2.cell 1
     have z0:=hb2.frozen 0
     have z1:=hb2.frozen 1
     have x0:w3.cell? ⟨w2.heap.size,0,none⟩=some (.int .u8 3):=hX3.cell 0
     have x1:w3.cell? ⟨w2.heap.size,1,none⟩=some (.int .u8 l):=hX3.cell 1
     have x2:w3.cell? ⟨w2.heap.size,2,none⟩=some (.int .u8 l):=hX3.cell 2
     have x3:w3.cell? ⟨w2.heap.size,3,none⟩=some (.int .u8 lt):=hX3.cell 3
     have x4:w3.cell? ⟨w2.heap.size,4,none⟩=some (.int .u32 lp):=hX3.cell 4
     have x5:w3.cell? ⟨w2.heap.size,5,none⟩=some (.int .u8 ht'):=hX3.cell 5
     have x6:w3.cell? ⟨w2.heap.size,6,none⟩=some (.int .u32 hp):=hX3.cell 6
     have y2:=hX3.frozen 2
     have y3:=hX3.frozen 3
     have y4:=hX3.frozen 4
     have y5:=hX3.frozen 5
     have y6:=hX3.frozen 6
     have q3:w2.heap.size<w3.heap.size:=hX3.lt
     have q4:w.heap.size<w3.heap.size:=by omega
     have q5:w.heap.size+1<w3.heap.size:=by omega
     have q6:w.heap.size+2<w3.heap.size:=by omega
     have HB3:=Lib.hid hb3
     have HX3:=Lib.hid hX3
     have HWX:Hid (W.heap.size≤w2.heap.size):=Lib.hid hbel2.size
     clear hb0 hb1 hb2 hX3 hXB hbX hbel3 hb3 hbel2 hbel1
     rw [HREC.out]
     unfold getR Rec.cells
     go_wp2_with fail
     refine (HFC.out _ (HB3.out.alloc HB3.out.size _) ⟨3,l,l,⟨lt,lp⟩,⟨ht',hp⟩⟩ HRW.out (HRT.out (by rw [if_neg (by decide)];exact HAB.out)) HLD.out.1 HLD.out.2).mono ?_
     rintro e w5 ⟨hbF,h5⟩
     rcases h5 with (⟨ed,cs2,free2,rfl,⟨htag,hrec2⟩,hgr,hT⟩|⟨cs2,free2,rfl,hfull,hgr,hT⟩)
     all_goals
      have hB2:=(FB.out _ hbF).2.2.chg hT.2 (fun hm=>by have:=hF.out _ hm;omega)
      have n0':w5.cell? ⟨w.heap.size+2,0,none⟩=some (.int .u8 0):=hB2.cell 0
      have n1':w5.cell? ⟨w.heap.size+2,1,none⟩=some (.int .u32 0):=hB2.cell 1
      have z0':=hB2.frozen 0
      have z1':=hB2.frozen 1
      have HTT:=Lib.hid hT
      have HBF:=Lib.hid hbF
      clear hT hB2 hbF
     ·have HU2:Hid (Unf cs2 3 ed (mkT 3 l a b)):=Lib.hid (by
       rw [HMT.out]
       exact ⟨htag,_,hrec2,rfl,rfl,rfl,Unf.ext hgr.ext HLO0.out,Unf.ext hgr.ext HHI0.out⟩
       )
      have HG:=Lib.hid hgr
      clear htag hrec2 hgr
      obtain ⟨et,ep⟩:=ed
      simp only [Edg.cells]
      go_wp2_with fail
      refine bodyPost_ret (v:= .tuple #[.agg (⟨et,ep⟩:Edg).cells.toArray,.int .u8 0]) ?_ rfl (.inl ⟨⟨et,ep⟩,cs2,free2,rfl,HU2.out,HG.out,?_⟩)
      ·simp [results,Tryz.results69,go_sem,Edg.cells, *]
      ·exact sto_down (H3.out.trans (HBF.out.mono H3.out.size)) hF.out HTT.out (chg2 _ (w.heap.size+2) _ _) (fun k hk=>by have:=HWS.out;have:=HBF.out.size;simp at hk;omega)
     ·have HG:=Lib.hid hgr
      have HFL:=Lib.hid hfull
      clear hgr hfull
      simp only [Edg.cells,Edg.nil]
      go_wp2_with fail
      refine bodyPost_ret (v:= .tuple #[.agg Edg.nil.cells.toArray,.int .u8 6]) ?_ rfl (.inr ⟨cs2,free2,rfl,HFL.out,HG.out,?_⟩)
      ·simp [results,Tryz.results69,go_sem,Edg.cells,Edg.nil, *]
      ·exact sto_down (H3.out.trans (HBF.out.mono H3.out.size)) hF.out HTT.out (chg2 _ (w.heap.size+2) _ _) (fun k hk=>by have:=HWS.out;have:=HBF.out.size;simp at hk;omega)
    ·have hEQ2:=eql_edge r3 r4 ht' hp false (by rw [decide_eq_false_iff_not];exact hc2)
     clear hc2
     go_enter Tryz.func69,Tryz.ntmps69
     go_wp2_with fail
     rw [← HWW.out]
     clear hW
     obtain ⟨hb0,hb1,hb2⟩:=FB.out W (Below.refl _ _)
     have a0:W.cell? ⟨w.heap.size,0,none⟩=some (.int .u8 lt):=hb0.cell 0
     have a1:W.cell? ⟨w.heap.size,1,none⟩=some (.int .u32 lp):=hb0.cell 1
     clear hb0 hb1 hb2
     refine (HVA.out _ (Below.refl _ _)).mono ?_
     rintro e w' ⟨rfl,rfl⟩
     go_wp2_with fail
     refine (HLO.out _ (Below.refl _ _)).mono ?_
     rintro e w1 ⟨rfl,hbel1⟩
     have b0':w1.cell? ⟨w.heap.size+1,0,none⟩=some (.int .u8 ht'):=(FB.out w1 hbel1).2.1.cell 0
     have b1':w1.cell? ⟨w.heap.size+1,1,none⟩=some (.int .u32 hp):=(FB.out w1 hbel1).2.1.cell 1
     clear a0 a1
     go_wp2_with fail
     refine (HHI.out _ hbel1).mono ?_
     rintro e w2 ⟨rfl,hbel2⟩
     clear b0' b1'
     obtain ⟨hb0,hb1,hb2⟩:=FB.out w2 hbel2
     have a0:w2.cell? ⟨w.heap.size,0,none⟩=some (.int .u8 lt):=hb0.cell 0
     have a1:w2.cell? ⟨w.heap.size,1,none⟩=some (.int .u32 lp):=hb0.cell 1
     have b0:w2.cell? ⟨w.heap.size+1,0,none⟩=some (.int .u8 ht'):=hb1.cell 0
     have b1:w2.cell? ⟨w.heap.size+1,1,none⟩=some (.int .u32 hp):=hb1.cell 1
     have n0:w2.cell? ⟨w.heap.size+2,0,none⟩=some (.int .u8 0):=hb2.cell 0
     have n1:w2.cell? ⟨w.heap.size+2,1,none⟩=some (.int .u32 0):=hb2.cell 1
     have z0:=hb2.frozen 0
     have z1:=hb2.frozen 1
     clear hb0 hb1 hb2
     have q0:w.heap.size<w2.heap.size:=by have:=HWS.out;have:=hbel2.size;omega
     have q1:w.heap.size+1<w2.heap.size:=by have:=HWS.out;have:=hbel2.size;omega
     have q2:w.heap.size+2<w2.heap.size:=by have:=HWS.out;have:=hbel2.size;omega
     go_wp2_with fail
     obtain ⟨X,hX⟩:∃X,X=w2.alloc (.cells #[.int .u8 3,.int .u8 l,.int .u8 l,.int .u8 lt,.int .u32 lp,.int .u8 ht',.int .u32 hp] 78):=⟨_,rfl⟩
     have hbX:Below W.heap.size W X:=by rw [hX];exact hbel2.alloc hbel2.size _
     have hXB:Blk X w2.heap.size 78 #[.int .u8 3,.int .u8 l,.int .u8 l,.int .u8 lt,.int .u32 lp,.int .u8 ht',.int .u32 hp]:=by rw [hX];exact Blk.new _ _ _
     have HXX:=Lib.hid hX
     rw [← HXX.out]
     clear hX
     refine (storeGet_any F g n room cs free lp X (HSW.out.on hbX) HLW.out.2.2.1 HLW.out.2.2.2).mono ?_
     rintro e w3 ⟨rfl,hbel3⟩
     have hb3:Below W.heap.size W w3:=hbX.trans (hbel3.mono hbX.size)
     have hX3:=hXB.onB hbel3
     clear a0 a1 b0 b1 n0 n1 z0 z1
     obtain ⟨hb0,hb1,hb2⟩:=FB.out w3 hb3
     have a0:w3.cell? ⟨w.heap.size,0,none⟩=some (.int .u8 lt):=hb0.cell 0
     have a1:w3.cell? ⟨w.heap.size,1,none⟩=some (.int .u32 lp):=hb0.cell 1
     have b0:w3.cell? ⟨w.heap.size+1,0,none⟩=some (.int .u8 ht'):=hb1.cell 0
     have b1:w3.cell? ⟨w.heap.size+1,1,none⟩=some (.int .u32 hp):=hb1.cell 1
     have n0:w3.cell? ⟨w.heap.size+2,0,none⟩=some (.int .u8 0):=hb2.cell 0
     have n1:w3.cell? ⟨w.heap.size+2,1,none⟩=some (.int .u32 0):=hb2.cell 1
     have z0:=hb2.frozen 0
     have z1:=hb2.frozen 1
     have x0:w3.cell? ⟨w2.heap.size,0,none⟩=some (.int .u8 3):=hX3.cell 0
     have x1:w3.cell? ⟨w2.heap.size,1,none⟩=some (.int .u8 l):=hX3.cell 1
     have x2:w3.cell? ⟨w2.heap.size,2,none⟩=some (.int .u8 l):=hX3.cell 2
     have x3:w3.cell? ⟨w2.heap.size,3,none⟩=some (.int .u8 lt):=hX3.cell 3
     have x4:w3.cell? ⟨w2.heap.size,4,none⟩=some (.int .u32 lp):=hX3.cell 4
     have x5:w3.cell? ⟨w2.heap.size,5,none⟩=some (.int .u8 ht'):=hX3.cell 5
     have x6:w3.cell? ⟨w2.heap.size,6,none⟩=some (.int .u32 hp):=hX3.cell 6
     have y2:=hX3.frozen 2
     have y3:=hX3.frozen 3
     have y4:=hX3.frozen 4
     have y5:=hX3.frozen 5
     have y6:=hX3.frozen 6
     have q3:w2.heap.size<w3.heap.size:=hX3.lt
     have q4:w.heap.size<w3.heap.size:=by omega
     have q5:w.heap.size+1<w3.heap.size:=by omega
     have q6:w.heap.size+2<w3.heap.size:=by omega
     have HB3:=Lib.hid hb3
     have HX3:=Lib.hid hX3
     have HWX:Hid (W.heap.size≤w2.heap.size):=Lib.hid hbel2.size
     clear hb0 hb1 hb2 hX3 hXB hbX hbel3 hb3 hbel2 hbel1
     rw [HREC.out]
     unfold getR Rec.cells
     go_wp2_with fail
     refine (HFC.out _ (HB3.out.alloc HB3.out.size _) ⟨3,l,l,⟨lt,lp⟩,⟨ht',hp⟩⟩ HRW.out (HRT.out (by rw [if_neg (by decide)];exact HAB.out)) HLD.out.1 HLD.out.2).mono ?_
     rintro e w5 ⟨hbF,h5⟩
     rcases h5 with (⟨ed,cs2,free2,rfl,⟨htag,hrec2⟩,hgr,hT⟩|⟨cs2,free2,rfl,hfull,hgr,hT⟩)
     all_goals
      have hB2:=(FB.out _ hbF).2.2.chg hT.2 (fun hm=>by have:=hF.out _ hm;omega)
      have n0':w5.cell? ⟨w.heap.size+2,0,none⟩=some (.int .u8 0):=hB2.cell 0
      have n1':w5.cell? ⟨w.heap.size+2,1,none⟩=some (.int .u32 0):=hB2.cell 1
      have z0':=hB2.frozen 0
      have z1':=hB2.frozen 1
      have HTT:=Lib.hid hT
      have HBF:=Lib.hid hbF
      clear hT hB2 hbF
     ·have HU2:Hid (Unf cs2 3 ed (mkT 3 l a b)):=Lib.hid (by
       rw [HMT.out]
       exact ⟨htag,_,hrec2,rfl,rfl,rfl,Unf.ext hgr.ext HLO0.out,Unf.ext hgr.ext HHI0.out⟩
       )
      have HG:=Lib.hid hgr
      clear htag hrec2 hgr
      obtain ⟨et,ep⟩:=ed
      simp only [Edg.cells]
      go_wp2_with fail
      refine bodyPost_ret (v:= .tuple #[.agg (⟨et,ep⟩:Edg).cells.toArray,.int .u8 0]) ?_ rfl (.inl ⟨⟨et,ep⟩,cs2,free2,rfl,HU2.out,HG.out,?_⟩)
      ·simp [results,Tryz.results69,go_sem,Edg.cells, *]
      ·exact sto_down (H3.out.trans (HBF.out.mono H3.out.size)) hF.out HTT.out (chg2 _ (w.heap.size+2) _ _) (fun k hk=>by have:=HWS.out;have:=HBF.out.size;simp at hk;omega)
     ·have HG:=Lib.hid hgr
      have HFL:=Lib.hid hfull
      clear hgr hfull
      simp only [Edg.cells,Edg.nil]
      go_wp2_with fail
      refine bodyPost_ret (v:= .tuple #[.agg Edg.nil.cells.toArray,.int .u8 6]) ?_ rfl (.inr ⟨cs2,free2,rfl,HFL.out,HG.out,?_⟩)
      ·simp [results,Tryz.results69,go_sem,Edg.cells,Edg.nil, *]
      ·exact sto_down (H3.out.trans (HBF.out.mono H3.out.size)) hF.out HTT.out (chg2 _ (w.heap.size+2) _ _) (fun k hk=>by have:=HWS.out;have:=HBF.out.size;simp at hk;omega)
end
end Go.Proofs.YtnlmlehcpngcgaaGreat
