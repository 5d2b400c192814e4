/- Contract: store.Find of a right record, cells being free or not. -/
import Derived.Test.YtnlmlehcpngcgaaGreatQaj
import Derived.Test.YtnlmlehcpngcgaaGreatQaa
namespace Go.Proofs.YtnlmlehcpngcgaaGreat
set_option linter.unusedSimpArgs false
set_option linter.unusedVariables false
section
open Go.RowKit Go.Sort
set_option maxRecDepth 100000 in
set_option maxHeartbeats 4000000 in
theorem findF_any (F:List Nat) (g n room:Nat) (cs:List (Option Rec)) (free:List Int) (r:Rec) (w:World) (h:StoreAt w F g n room cs free) (hr:r.Wf) (hfr:FreeOk cs free) (hri:right r n=true) (hlo:leads cs n r.form r.lo (r.bot+1)=true) (hhi:leads cs n r.form r.hi (r.bot+1)=true) :
  Calls Tryz.prog 108 #[.pointer (some ⟨g,0,none⟩),.agg r.cells.toArray] w (FindOut w F g n room cs free r):=by
 have HFR:=Lib.hid hfr
 have HRT:=Lib.hid hri
 have HLT:=Lib.hid hlo
 have HHT:=Lib.hid hhi
 clear hfr hri hlo hhi
 have hst:=h
 obtain ⟨ga,gi,Fa,Fi,m,hB,hA,hI,h4,hFe,h6,h7⟩:=h
 have hlt:=hB.lt
 have HR:=Lib.hid hr
 have HST:=Lib.hid hst
 have HOK:=Lib.hid h7
 have HM4:=Lib.hid h4
 have HFE:=Lib.hid hFe
 have HND:=Lib.hid h6
 have HID:=Lib.hid (fun r=>idOf_eq h4 r)
 obtain ⟨f,t,b,⟨lt,lp⟩,⟨ht,hp⟩⟩:=r
 obtain ⟨⟨r1,r2⟩,⟨r3,r4⟩,⟨r5,r6⟩,⟨r7,r8,r9,r10⟩,⟨r11,r12,r13,r14⟩⟩:=hr
 simp only at r1 r2 r3 r4 r5 r6 r7 r8 r9 r10 r11 r12 r13 r14
 simp only [Rec.cells]
 obtain ⟨W,hW⟩:∃W,W=w.alloc (.cells #[.int .u8 f,.int .u8 t,.int .u8 b,.int .u8 lt,.int .u32 lp,.int .u8 ht,.int .u32 hp] 78):=⟨_,rfl⟩
 have hbW:Below w.heap.size w W:=by rw [hW];exact (Below.refl _ _).alloc (Nat.le_refl _) _
 have hK:Blk W w.heap.size 78 #[.int .u8 f,.int .u8 t,.int .u8 b,.int .u8 lt,.int .u32 lp,.int .u8 ht,.int .u32 hp]:=by rw [hW];exact Blk.new w _ _
 have hkW:=hK.lt
 have hgW:g<W.heap.size:=by have:=hbW.size;omega
 have HWW:=Lib.hid hW
 have HbW:=Lib.hid hbW
 have HI:=Lib.hid (hI.on hbW)
 have HA:=Lib.hid (hA.on hbW)
 have HSW:=Lib.hid (hst.on hbW)
 have HBW:=Lib.hid (hB.on' hbW)
 have FACTS:Hid (∀ W',Below W.heap.size W W'→W'.cell? ⟨g,2,none⟩=some (.pointer (some ⟨gi,0,none⟩))∧W'.cell? ⟨w.heap.size,0,none⟩=some (.int .u8 f)∧W'.cell? ⟨w.heap.size,1,none⟩=some (.int .u8 t)∧W'.cell? ⟨w.heap.size,2,none⟩=some (.int .u8 b)∧W'.cell? ⟨w.heap.size,3,none⟩=some (.int .u8 lt)∧W'.cell? ⟨w.heap.size,4,none⟩=some (.int .u32 lp)∧W'.cell? ⟨w.heap.size,5,none⟩=some (.int .u8 ht)∧W'.cell? ⟨w.heap.size,6,none⟩=some (.int .u32 hp)):=Lib.hid fun W' hW'=>⟨(hW'.cell (p:=⟨g,2,none⟩) hgW).trans ((hB.on' hbW).cell 2),(hW'.cell (p:=⟨w.heap.size,0,none⟩) hkW).trans (hK.cell 0),(hW'.cell (p:=⟨w.heap.size,1,none⟩) hkW).trans (hK.cell 1),(hW'.cell (p:=⟨w.heap.size,2,none⟩) hkW).trans (hK.cell 2),(hW'.cell (p:=⟨w.heap.size,3,none⟩) hkW).trans (hK.cell 3),(hW'.cell (p:=⟨w.heap.size,4,none⟩) hkW).trans (hK.cell 4),(hW'.cell (p:=⟨w.heap.size,5,none⟩) hkW).trans (hK.cell 5),(hW'.cell (p:=⟨w.heap.size,6,none⟩) hkW).trans (hK.cell 6)⟩
 have hGT:∀W',Below W.heap.size W W'→Calls Tryz.prog 129 #[.pointer (some ⟨gi,0,none⟩),.agg #[.int .u8 f,.int .u8 t,.int .u8 b,.int .u8 lt,.int .u32 lp,.int .u8 ht,.int .u32 hp]] W' fun r w'=>r = .returned (getV (idOf cs ⟨f,t,b,⟨lt,lp⟩,⟨ht,hp⟩⟩))∧Below W.heap.size W w':=fun W' hW'=>by
  have h:=idxGet_any Fi gi (cntC cs) m ⟨f,t,b,⟨lt,lp⟩,⟨ht,hp⟩⟩ W' (HI.out.on hW') HR.out
  rw [HID.out] at h
  exact h.mono fun _ _ ⟨q1,q2⟩=>⟨q1,hW'.trans (q2.mono hW'.size)⟩
 have HGT:=Lib.hid hGT
 have FACTS7:Hid (∀ W',Below W.heap.size W W'→W'.cell? ⟨g,0,none⟩=some (.int .i64 (n:Nat))∧W'.cell? ⟨w.heap.size,0,none⟩=some (.int .u8 f)∧W'.cell? ⟨w.heap.size,1,none⟩=some (.int .u8 t)∧W'.cell? ⟨w.heap.size,2,none⟩=some (.int .u8 b)∧W'.cell? ⟨w.heap.size,3,none⟩=some (.int .u8 lt)∧W'.cell? ⟨w.heap.size,4,none⟩=some (.int .u32 lp)∧W'.cell? ⟨w.heap.size,5,none⟩=some (.int .u8 ht)∧W'.cell? ⟨w.heap.size,6,none⟩=some (.int .u32 hp)):=Lib.hid fun W' hW'=>⟨(hW'.cell (p:=⟨g,0,none⟩) hgW).trans ((hB.on' hbW).cell 0),(hW'.cell (p:=⟨w.heap.size,0,none⟩) hkW).trans (hK.cell 0),(hW'.cell (p:=⟨w.heap.size,1,none⟩) hkW).trans (hK.cell 1),(hW'.cell (p:=⟨w.heap.size,2,none⟩) hkW).trans (hK.cell 2),(hW'.cell (p:=⟨w.heap.size,3,none⟩) hkW).trans (hK.cell 3),(hW'.cell (p:=⟨w.heap.size,4,none⟩) hkW).trans (hK.cell 4),(hW'.cell (p:=⟨w.heap.size,5,none⟩) hkW).trans (hK.cell 5),(hW'.cell (p:=⟨w.heap.size,6,none⟩) hkW).trans (hK.cell 6)⟩
 have hbox:w.heap.size∉Fa:=fun h=>by have:=hA.lt _ h;omega
 have hgFa:g∉Fa:=fun h=>by rw [hFe,List.nodup_cons] at h6;exact h6.1 (by simp [h])
 have hgFi:g∉Fi:=fun h=>by rw [hFe,List.nodup_cons] at h6;exact h6.1 (by simp [h])
 have hboxi:w.heap.size∉Fi:=fun h=>by have:=hI.lt _ h;omega
 have hgG:g∉Fa++Fi:=by simp [hgFa,hgFi]
 have hboxG:w.heap.size∉Fa++Fi:=by simp [hbox,hboxi]
 have hdis:∀k∈Fi,¬k∈Fa:=fun k hk hk2=>by rw [hFe,List.nodup_cons,List.nodup_append] at h6;exact h6.2.2.2 k hk2 k hk rfl
 have FACTS9:Hid (∀ W',Chg (Fa++Fi) W W'→W'.cell? ⟨g,1,none⟩=some (.pointer (some ⟨ga,0,none⟩))∧W'.cell? ⟨w.heap.size,0,none⟩=some (.int .u8 f)∧W'.cell? ⟨w.heap.size,1,none⟩=some (.int .u8 t)∧W'.cell? ⟨w.heap.size,2,none⟩=some (.int .u8 b)∧W'.cell? ⟨w.heap.size,3,none⟩=some (.int .u8 lt)∧W'.cell? ⟨w.heap.size,4,none⟩=some (.int .u32 lp)∧W'.cell? ⟨w.heap.size,5,none⟩=some (.int .u8 ht)∧W'.cell? ⟨w.heap.size,6,none⟩=some (.int .u32 hp)):=Lib.hid fun W' hW'=>⟨(hW'.cell (p:=⟨g,1,none⟩) hgW hgG).trans ((hB.on' hbW).cell 1),(hW'.cell (p:=⟨w.heap.size,0,none⟩) hkW hboxG).trans (hK.cell 0),(hW'.cell (p:=⟨w.heap.size,1,none⟩) hkW hboxG).trans (hK.cell 1),(hW'.cell (p:=⟨w.heap.size,2,none⟩) hkW hboxG).trans (hK.cell 2),(hW'.cell (p:=⟨w.heap.size,3,none⟩) hkW hboxG).trans (hK.cell 3),(hW'.cell (p:=⟨w.heap.size,4,none⟩) hkW hboxG).trans (hK.cell 4),(hW'.cell (p:=⟨w.heap.size,5,none⟩) hkW hboxG).trans (hK.cell 5),(hW'.cell (p:=⟨w.heap.size,6,none⟩) hkW hboxG).trans (hK.cell 6)⟩
 have FACTS12:Hid (∀ W',Chg (Fa++Fi) W W'→W'.cell? ⟨g,2,none⟩=some (.pointer (some ⟨gi,0,none⟩))∧W'.cell? ⟨w.heap.size,0,none⟩=some (.int .u8 f)∧W'.cell? ⟨w.heap.size,1,none⟩=some (.int .u8 t)∧W'.cell? ⟨w.heap.size,2,none⟩=some (.int .u8 b)∧W'.cell? ⟨w.heap.size,3,none⟩=some (.int .u8 lt)∧W'.cell? ⟨w.heap.size,4,none⟩=some (.int .u32 lp)∧W'.cell? ⟨w.heap.size,5,none⟩=some (.int .u8 ht)∧W'.cell? ⟨w.heap.size,6,none⟩=some (.int .u32 hp)):=Lib.hid fun W' hW'=>⟨(hW'.cell (p:=⟨g,2,none⟩) hgW hgG).trans ((hB.on' hbW).cell 2),(hW'.cell (p:=⟨w.heap.size,0,none⟩) hkW hboxG).trans (hK.cell 0),(hW'.cell (p:=⟨w.heap.size,1,none⟩) hkW hboxG).trans (hK.cell 1),(hW'.cell (p:=⟨w.heap.size,2,none⟩) hkW hboxG).trans (hK.cell 2),(hW'.cell (p:=⟨w.heap.size,3,none⟩) hkW hboxG).trans (hK.cell 3),(hW'.cell (p:=⟨w.heap.size,4,none⟩) hkW hboxG).trans (hK.cell 4),(hW'.cell (p:=⟨w.heap.size,5,none⟩) hkW hboxG).trans (hK.cell 5),(hW'.cell (p:=⟨w.heap.size,6,none⟩) hkW hboxG).trans (hK.cell 6)⟩
 have HDIS:=Lib.hid hdis
 have hRI:∀W',Below W.heap.size W W'→Calls Tryz.prog 130 #[.agg #[.int .u8 f,.int .u8 t,.int .u8 b,.int .u8 lt,.int .u32 lp,.int .u8 ht,.int .u32 hp],.int .i64 (n:Nat)] W' fun r w'=>r = .returned (.bool (right ⟨f,t,b,⟨lt,lp⟩,⟨ht,hp⟩⟩ n))∧Below W'.heap.size W' w':=fun W' hW'=>(right_any ⟨f,t,b,⟨lt,lp⟩,⟨ht,hp⟩⟩ n W' HR.out (by have:=HOK.out.n16;omega)).mono fun _ _ ⟨q1,q2⟩=>⟨q1,q2⟩
 have HRI:=Lib.hid hRI
 have hLO:∀W',Below W.heap.size W W'→Calls Tryz.prog 59 #[.pointer (some ⟨g,0,none⟩),.int .u8 f,.agg #[.int .u8 lt,.int .u32 lp],.int .i64 (b+1)] W' fun r w'=>r = .returned (.bool (leads cs n f ⟨lt,lp⟩ (b+1)))∧Below W'.heap.size W' w':=fun W' hW'=>(leads_any F g n room cs free f ⟨lt,lp⟩ (b+1) W' (HSW.out.on hW') ⟨r1,r2⟩ ⟨r7,r8,r9,r10⟩).mono fun _ _ ⟨q1,q2⟩=>⟨q1,q2⟩
 have HLO:=Lib.hid hLO
 have hHI:∀W',Below W.heap.size W W'→Calls Tryz.prog 59 #[.pointer (some ⟨g,0,none⟩),.int .u8 f,.agg #[.int .u8 ht,.int .u32 hp],.int .i64 (b+1)] W' fun r w'=>r = .returned (.bool (leads cs n f ⟨ht,hp⟩ (b+1)))∧Below W'.heap.size W' w':=fun W' hW'=>(leads_any F g n room cs free f ⟨ht,hp⟩ (b+1) W' (HSW.out.on hW') ⟨r1,r2⟩ ⟨r11,r12,r13,r14⟩).mono fun _ _ ⟨q1,q2⟩=>⟨q1,q2⟩
 have HHI:=Lib.hid hHI
 have hk0:=FACTS.out _ (Below.refl _ _)
 clear hB hA hI h4 hFe h6 h7 hst hbW hK hGT hRI hLO hHI hgG hboxG hdis hbox hgFa hboxi hgFi r3 r4 r7 r8 r9 r10 r11 r12 r13 r14
 cases hx:idOf cs ⟨f,t,b,⟨lt,lp⟩,⟨ht,hp⟩⟩ with
 | some id=>
  have HX:=Lib.hid hx
  have HIR:=Lib.hid (idOf_rec hx)
  clear hx
  go_enter Tryz.func108,Tryz.ntmps108
  go_wp2_with fail
  rw [← HWW.out]
  clear hW
  have j0:∀d os,(grow (redrawn W d) os).cell? ⟨g,2,none⟩=some (.pointer (some ⟨gi,0,none⟩)):=fun d os=>cell_regrown (FACTS.out W (Below.refl _ _)).1 d os
  have j1:∀d os,(grow (redrawn W d) os).cell? ⟨w.heap.size,0,none⟩=some (.int .u8 f):=fun d os=>cell_regrown (FACTS.out W (Below.refl _ _)).2.1 d os
  have j2:∀d os,(grow (redrawn W d) os).cell? ⟨w.heap.size,1,none⟩=some (.int .u8 t):=fun d os=>cell_regrown (FACTS.out W (Below.refl _ _)).2.2.1 d os
  have j3:∀d os,(grow (redrawn W d) os).cell? ⟨w.heap.size,2,none⟩=some (.int .u8 b):=fun d os=>cell_regrown (FACTS.out W (Below.refl _ _)).2.2.2.1 d os
  have j4:∀d os,(grow (redrawn W d) os).cell? ⟨w.heap.size,3,none⟩=some (.int .u8 lt):=fun d os=>cell_regrown (FACTS.out W (Below.refl _ _)).2.2.2.2.1 d os
  have j5:∀d os,(grow (redrawn W d) os).cell? ⟨w.heap.size,4,none⟩=some (.int .u32 lp):=fun d os=>cell_regrown (FACTS.out W (Below.refl _ _)).2.2.2.2.2.1 d os
  have j6:∀d os,(grow (redrawn W d) os).cell? ⟨w.heap.size,5,none⟩=some (.int .u8 ht):=fun d os=>cell_regrown (FACTS.out W (Below.refl _ _)).2.2.2.2.2.2.1 d os
  have j7:∀d os,(grow (redrawn W d) os).cell? ⟨w.heap.size,6,none⟩=some (.int .u32 hp):=fun d os=>cell_regrown (FACTS.out W (Below.refl _ _)).2.2.2.2.2.2.2 d os
  have cGT:=regrown_calls HGT.out
  rw [HX.out] at cGT
  unfold getV at cGT
  simp only at cGT
  refine wp_region_quiet_below (by kernel_rfl) (by kernel_rfl) ?_
  repeat (first|go_big_quiet_step ((first|with_reducible exact cGT _ _|fail))|quiet_step ((first|with_reducible exact cGT _ _|fail)))
  refine wpQuiet_nil ?_
  intro w6 hw'
  have hbel6:Below W.heap.size W w6:=regrown_below hw'
  clear hw'
  clear cGT j0 j1 j2 j3 j4 j5 j6 j7
  go_wp2_with fail
  go_ret2
  have hbf:=HbW.out.trans (hbel6.mono HbW.out.size)
  exact .inl ⟨id,cs,free,rfl,by have:=HIR.out.2;have:=HOK.out.len;have:=HOK.out.room20;omega,HIR.out.1,Grow.refl HFR.out 1,turns_of_below (HST.out.on hbf) hbf⟩
 | none=>
  have HX:=Lib.hid hx
  clear hx
  by_cases hfull:cntC cs<room
  ·have HFU:=Lib.hid hfull
   have HPC:=Lib.hid (putC_ok (r:=⟨f,t,b,⟨lt,lp⟩,⟨ht,hp⟩⟩) HOK.out HFR.out HR.out hfull)
   clear hfull
   go_enter Tryz.func108,Tryz.ntmps108
   go_wp2_with fail
   rw [← HWW.out]
   clear hW
   have j0:∀d os,(grow (redrawn W d) os).cell? ⟨g,2,none⟩=some (.pointer (some ⟨gi,0,none⟩)):=fun d os=>cell_regrown (FACTS.out W (Below.refl _ _)).1 d os
   have j1:∀d os,(grow (redrawn W d) os).cell? ⟨w.heap.size,0,none⟩=some (.int .u8 f):=fun d os=>cell_regrown (FACTS.out W (Below.refl _ _)).2.1 d os
   have j2:∀d os,(grow (redrawn W d) os).cell? ⟨w.heap.size,1,none⟩=some (.int .u8 t):=fun d os=>cell_regrown (FACTS.out W (Below.refl _ _)).2.2.1 d os
   have j3:∀d os,(grow (redrawn W d) os).cell? ⟨w.heap.size,2,none⟩=some (.int .u8 b):=fun d os=>cell_regrown (FACTS.out W (Below.refl _ _)).2.2.2.1 d os
   have j4:∀d os,(grow (redrawn W d) os).cell? ⟨w.heap.size,3,none⟩=some (.int .u8 lt):=fun d os=>cell_regrown (FACTS.out W (Below.refl _ _)).2.2.2.2.1 d os
   have j5:∀d os,(grow (redrawn W d) os).cell? ⟨w.heap.size,4,none⟩=some (.int .u32 lp):=fun d os=>cell_regrown (FACTS.out W (Below.refl _ _)).2.2.2.2.2.1 d os
   have j6:∀d os,(grow (redrawn W d) os).cell? ⟨w.heap.size,5,none⟩=some (.int .u8 ht):=fun d os=>cell_regrown (FACTS.out W (Below.refl _ _)).2.2.2.2.2.2.1 d os
   have j7:∀d os,(grow (redrawn W d) os).cell? ⟨w.heap.size,6,none⟩=some (.int .u32 hp):=fun d os=>cell_regrown (FACTS.out W (Below.refl _ _)).2.2.2.2.2.2.2 d os
   have cGT:=regrown_calls HGT.out
   rw [HX.out] at cGT
   unfold getV at cGT
   simp only at cGT
   refine wp_region_quiet_below (by kernel_rfl) (by kernel_rfl) ?_
   repeat (first|go_big_quiet_step ((first|with_reducible exact cGT _ _|fail))|quiet_step ((first|with_reducible exact cGT _ _|fail)))
   refine wpQuiet_nil ?_
   intro w6 hw'
   have hbel6:Below W.heap.size W w6:=regrown_below hw'
   clear hw'
   clear cGT j0 j1 j2 j3 j4 j5 j6 j7
   have hk2:=(FACTS.out _ hbel6).2.2.2.1
   go_wp2_with fail
   clear hk2
   have j0:∀d os,(grow (redrawn w6 d) os).cell? ⟨g,0,none⟩=some (.int .i64 (n:Nat)):=fun d os=>cell_regrown (FACTS7.out w6 hbel6).1 d os
   have j1:∀d os,(grow (redrawn w6 d) os).cell? ⟨w.heap.size,0,none⟩=some (.int .u8 f):=fun d os=>cell_regrown (FACTS7.out w6 hbel6).2.1 d os
   have j2:∀d os,(grow (redrawn w6 d) os).cell? ⟨w.heap.size,1,none⟩=some (.int .u8 t):=fun d os=>cell_regrown (FACTS7.out w6 hbel6).2.2.1 d os
   have j3:∀d os,(grow (redrawn w6 d) os).cell? ⟨w.heap.size,2,none⟩=some (.int .u8 b):=fun d os=>cell_regrown (FACTS7.out w6 hbel6).2.2.2.1 d os
   have j4:∀d os,(grow (redrawn w6 d) os).cell? ⟨w.heap.size,3,none⟩=some (.int .u8 lt):=fun d os=>cell_regrown (FACTS7.out w6 hbel6).2.2.2.2.1 d os
   have j5:∀d os,(grow (redrawn w6 d) os).cell? ⟨w.heap.size,4,none⟩=some (.int .u32 lp):=fun d os=>cell_regrown (FACTS7.out w6 hbel6).2.2.2.2.2.1 d os
   have j6:∀d os,(grow (redrawn w6 d) os).cell? ⟨w.heap.size,5,none⟩=some (.int .u8 ht):=fun d os=>cell_regrown (FACTS7.out w6 hbel6).2.2.2.2.2.2.1 d os
   have j7:∀d os,(grow (redrawn w6 d) os).cell? ⟨w.heap.size,6,none⟩=some (.int .u32 hp):=fun d os=>cell_regrown (FACTS7.out w6 hbel6).2.2.2.2.2.2.2 d os
   have cRI:=regrown_calls (W:=w6) (fun W' hW'=>(HRI.out W' (hbel6.trans (hW'.mono hbel6.size))).mono fun _ _ ⟨q1,q2⟩=>⟨q1,hW'.trans (q2.mono hW'.size)⟩)
   rw [HRT.out] at cRI
   have cLO:=regrown_calls (W:=w6) (fun W' hW'=>(HLO.out W' (hbel6.trans (hW'.mono hbel6.size))).mono fun _ _ ⟨q1,q2⟩=>⟨q1,hW'.trans (q2.mono hW'.size)⟩)
   rw [HLT.out] at cLO
   have cHI:=regrown_calls (W:=w6) (fun W' hW'=>(HHI.out W' (hbel6.trans (hW'.mono hbel6.size))).mono fun _ _ ⟨q1,q2⟩=>⟨q1,hW'.trans (q2.mono hW'.size)⟩)
   rw [HHT.out] at cHI
   refine wp_region_quiet_below (by kernel_rfl) (by kernel_rfl) ?_
   repeat (first|go_big_quiet_step ((first|with_reducible exact cRI _ _|with_reducible exact cLO _ _|with_reducible exact cHI _ _|fail))|quiet_step ((first|with_reducible exact cRI _ _|with_reducible exact cLO _ _|with_reducible exact cHI _ _|fail)))
   refine wpQuiet_nil ?_
   intro w9 hw'
   have hbel69:Below w6.heap.size w6 w9:=regrown_below hw'
   clear hw'
   have hbel9:=hbel6.trans (hbel69.mono hbel6.size)
   clear cRI cLO cHI j0 j1 j2 j3 j4 j5 j6 j7
   obtain ⟨K,hKe⟩:∃K,K=(putC cs free ⟨f,t,b,⟨lt,lp⟩,⟨ht,hp⟩⟩).1:=⟨_,rfl⟩
   have HKE:=Lib.hid hKe
   clear hKe
   go_wp2_with fail
   have hPU:Calls Tryz.prog 131 #[.pointer (some ⟨ga,0,none⟩),.agg #[.int .u8 f,.int .u8 t,.int .u8 b,.int .u8 lt,.int .u32 lp,.int .u8 ht,.int .u32 hp]] w9.drew fun e w'=>e = .returned (.tuple #[.int .u32 (K:Nat),.bool true])∧Turns (fun W X=>ArenaAt W X ga (putC cs free ⟨f,t,b,⟨lt,lp⟩,⟨ht,hp⟩⟩).2.1 (putC cs free ⟨f,t,b,⟨lt,lp⟩,⟨ht,hp⟩⟩).2.2 room) Fa w9.drew w':=by
    rw [HKE.out]
    exact arenaPut_any Fa ga n cs free room ⟨f,t,b,⟨lt,lp⟩,⟨ht,hp⟩⟩ _ (HA.out.on hbel9.drew) HFU.out HOK.out HFR.out
   have HPU:=Lib.hid hPU
   clear hPU
   have hk9:=FACTS9.out _ (chg_of_below hbel9)
   go_region_held3 (fun w'=>w'.cell? ⟨g,1,none⟩=some (.pointer (some ⟨ga,0,none⟩))∧w'.cell? ⟨w.heap.size,0,none⟩=some (.int .u8 f)∧w'.cell? ⟨w.heap.size,1,none⟩=some (.int .u8 t)∧w'.cell? ⟨w.heap.size,2,none⟩=some (.int .u8 b)∧w'.cell? ⟨w.heap.size,3,none⟩=some (.int .u8 lt)∧w'.cell? ⟨w.heap.size,4,none⟩=some (.int .u32 lp)∧w'.cell? ⟨w.heap.size,5,none⟩=some (.int .u8 ht)∧w'.cell? ⟨w.heap.size,6,none⟩=some (.int .u32 hp)) ((refine FACTS9.out _ ?_;with_reducible (first|exact chg_of_below hbel9|exact (chg_of_below hbel9).drew|exact hch10|fail))) (first|(go_at_call 131;refine HPU.out.mono ?_;rintro e w10 ⟨rfl,hT10⟩;have HT10:=Lib.hid hT10;clear hT10;have hch10:Chg (Fa++Fi) W w10:=(chg_of_below hbel9.drew).trans HT10.out.2 (fun x hx=> .inl (by simp [hx])))|fail)
   go_wp2_with fail
   have hchA:Chg Fa W w10:=(chg_of_below hbel9.drew).trans HT10.out.2 (fun x hx=> .inl hx)
   have hIP:Calls Tryz.prog 132 #[.pointer (some ⟨gi,0,none⟩),.agg #[.int .u8 f,.int .u8 t,.int .u8 b,.int .u8 lt,.int .u32 lp,.int .u8 ht,.int .u32 hp],.int .u32 (K:Nat)] w10.drew fun e w'=>e = .returned (.tuple #[.int .u32 0,.bool false])∧Turns (fun W X=>IdxAt W X gi (upd m ⟨f,t,b,⟨lt,lp⟩,⟨ht,hp⟩⟩ K) (cntC cs+1)) Fi w10.drew w':=idxPut_new Fi gi (cntC cs) m ⟨f,t,b,⟨lt,lp⟩,⟨ht,hp⟩⟩ K _ (HI.out.chg hchA.drew HDIS.out) (by rw [HID.out];exact HX.out) HR.out (by have:=HKE.out;have:=HPC.out.big;omega) (by have:=HFU.out;have:=HOK.out.room20;omega)
   have HIP:=Lib.hid hIP
   have hk12:=FACTS12.out _ hch10
   clear hIP hchA hk9
   go_region_held3 (fun w'=>w'.cell? ⟨g,2,none⟩=some (.pointer (some ⟨gi,0,none⟩))∧w'.cell? ⟨w.heap.size,0,none⟩=some (.int .u8 f)∧w'.cell? ⟨w.heap.size,1,none⟩=some (.int .u8 t)∧w'.cell? ⟨w.heap.size,2,none⟩=some (.int .u8 b)∧w'.cell? ⟨w.heap.size,3,none⟩=some (.int .u8 lt)∧w'.cell? ⟨w.heap.size,4,none⟩=some (.int .u32 lp)∧w'.cell? ⟨w.heap.size,5,none⟩=some (.int .u8 ht)∧w'.cell? ⟨w.heap.size,6,none⟩=some (.int .u32 hp)) ((refine FACTS12.out _ ?_;with_reducible (first|exact hch10|exact hch10.drew|exact hch11|fail))) (first|(go_at_call 132;refine HIP.out.mono ?_;rintro e w11 ⟨rfl,hT11⟩;have HT11:=Lib.hid hT11;clear hT11;have hch11:Chg (Fa++Fi) W w11:=hch10.drew.trans HT11.out.2 (fun x hx=> .inl (by simp [hx])))|fail)
   go_wp2_with fail
   go_ret2
   have hT11:=HT11.out
   rw [HKE.out] at hT11
   have hend:=store_put_endF (HbW.out.trans (hbel9.drew.mono HbW.out.size)) (fun k hk=>HST.out.lt k (by rw [HFE.out];exact hk)) (HBW.out.on' hbel9.drew) (by rw [← HFE.out];exact HND.out) HPC.out HM4.out (by rw [HID.out];exact HX.out) HT10.out hT11
   rw [← HFE.out] at hend
   refine .inl ⟨K,_,_,rfl,by rw [HKE.out];exact HPC.out.big,by rw [HPC.out.at_,HKE.out,if_pos rfl],⟨HPC.out.ext,HPC.out.free,by rw [HPC.out.cnt];exact Nat.le_refl _⟩,hend⟩
  ·have HFU:=Lib.hid hfull
   clear hfull
   go_enter Tryz.func108,Tryz.ntmps108
   go_wp2_with fail
   rw [← HWW.out]
   clear hW
   have j0:∀d os,(grow (redrawn W d) os).cell? ⟨g,2,none⟩=some (.pointer (some ⟨gi,0,none⟩)):=fun d os=>cell_regrown (FACTS.out W (Below.refl _ _)).1 d os
   have j1:∀d os,(grow (redrawn W d) os).cell? ⟨w.heap.size,0,none⟩=some (.int .u8 f):=fun d os=>cell_regrown (FACTS.out W (Below.refl _ _)).2.1 d os
   have j2:∀d os,(grow (redrawn W d) os).cell? ⟨w.heap.size,1,none⟩=some (.int .u8 t):=fun d os=>cell_regrown (FACTS.out W (Below.refl _ _)).2.2.1 d os
   have j3:∀d os,(grow (redrawn W d) os).cell? ⟨w.heap.size,2,none⟩=some (.int .u8 b):=fun d os=>cell_regrown (FACTS.out W (Below.refl _ _)).2.2.2.1 d os
   have j4:∀d os,(grow (redrawn W d) os).cell? ⟨w.heap.size,3,none⟩=some (.int .u8 lt):=fun d os=>cell_regrown (FACTS.out W (Below.refl _ _)).2.2.2.2.1 d os
   have j5:∀d os,(grow (redrawn W d) os).cell? ⟨w.heap.size,4,none⟩=some (.int .u32 lp):=fun d os=>cell_regrown (FACTS.out W (Below.refl _ _)).2.2.2.2.2.1 d os
   have j6:∀d os,(grow (redrawn W d) os).cell? ⟨w.heap.size,5,none⟩=some (.int .u8 ht):=fun d os=>cell_regrown (FACTS.out W (Below.refl _ _)).2.2.2.2.2.2.1 d os
   have j7:∀d os,(grow (redrawn W d) os).cell? ⟨w.heap.size,6,none⟩=some (.int .u32 hp):=fun d os=>cell_regrown (FACTS.out W (Below.refl _ _)).2.2.2.2.2.2.2 d os
   have cGT:=regrown_calls HGT.out
   rw [HX.out] at cGT
   unfold getV at cGT
   simp only at cGT
   refine wp_region_quiet_below (by kernel_rfl) (by kernel_rfl) ?_
   repeat (first|go_big_quiet_step ((first|with_reducible exact cGT _ _|fail))|quiet_step ((first|with_reducible exact cGT _ _|fail)))
   refine wpQuiet_nil ?_
   intro w6 hw'
   have hbel6:Below W.heap.size W w6:=regrown_below hw'
   clear hw'
   clear cGT j0 j1 j2 j3 j4 j5 j6 j7
   have hk2:=(FACTS.out _ hbel6).2.2.2.1
   go_wp2_with fail
   clear hk2
   have j0:∀d os,(grow (redrawn w6 d) os).cell? ⟨g,0,none⟩=some (.int .i64 (n:Nat)):=fun d os=>cell_regrown (FACTS7.out w6 hbel6).1 d os
   have j1:∀d os,(grow (redrawn w6 d) os).cell? ⟨w.heap.size,0,none⟩=some (.int .u8 f):=fun d os=>cell_regrown (FACTS7.out w6 hbel6).2.1 d os
   have j2:∀d os,(grow (redrawn w6 d) os).cell? ⟨w.heap.size,1,none⟩=some (.int .u8 t):=fun d os=>cell_regrown (FACTS7.out w6 hbel6).2.2.1 d os
   have j3:∀d os,(grow (redrawn w6 d) os).cell? ⟨w.heap.size,2,none⟩=some (.int .u8 b):=fun d os=>cell_regrown (FACTS7.out w6 hbel6).2.2.2.1 d os
   have j4:∀d os,(grow (redrawn w6 d) os).cell? ⟨w.heap.size,3,none⟩=some (.int .u8 lt):=fun d os=>cell_regrown (FACTS7.out w6 hbel6).2.2.2.2.1 d os
   have j5:∀d os,(grow (redrawn w6 d) os).cell? ⟨w.heap.size,4,none⟩=some (.int .u32 lp):=fun d os=>cell_regrown (FACTS7.out w6 hbel6).2.2.2.2.2.1 d os
   have j6:∀d os,(grow (redrawn w6 d) os).cell? ⟨w.heap.size,5,none⟩=some (.int .u8 ht):=fun d os=>cell_regrown (FACTS7.out w6 hbel6).2.2.2.2.2.2.1 d os
   have j7:∀d os,(grow (redrawn w6 d) os).cell? ⟨w.heap.size,6,none⟩=some (.int .u32 hp):=fun d os=>cell_regrown (FACTS7.out w6 hbel6).2.2.2.2.2.2.2 d os
   have cRI:=regrown_calls (W:=w6) (fun W' hW'=>(HRI.out W' (hbel6.trans (hW'.mono hbel6.size))).mono fun _ _ ⟨q1,q2⟩=>⟨q1,hW'.trans (q2.mono hW'.size)⟩)
   rw [HRT.out] at cRI
   have cLO:=regrown_calls (W:=w6) (fun W' hW'=>(HLO.out W' (hbel6.trans (hW'.mono hbel6.size))).mono fun _ _ ⟨q1,q2⟩=>⟨q1,hW'.trans (q2.mono hW'.size)⟩)
   rw [HLT.out] at cLO
   have cHI:=regrown_calls (W:=w6) (fun W' hW'=>(HHI.out W' (hbel6.trans (hW'.mono hbel6.size))).mono fun _ _ ⟨q1,q2⟩=>⟨q1,hW'.trans (q2.mono hW'.size)⟩)
   rw [HHT.out] at cHI
   refine wp_region_quiet_below (by kernel_rfl) (by kernel_rfl) ?_
   repeat (first|go_big_quiet_step ((first|with_reducible exact cRI _ _|with_reducible exact cLO _ _|with_reducible exact cHI _ _|fail))|quiet_step ((first|with_reducible exact cRI _ _|with_reducible exact cLO _ _|with_reducible exact cHI _ _|fail)))
   refine wpQuiet_nil ?_
   intro w9 hw'
   have hbel69:Below w6.heap.size w6 w9:=regrown_below hw'
   clear hw'
   have hbel9:=hbel6.trans (hbel69.mono hbel6.size)
   clear cRI cLO cHI j0 j1 j2 j3 j4 j5 j6 j7
   go_wp2_with fail
   have cPU:=regrown_calls (W:=w9) (fun W' hW'=>(arenaPut_full Fa ga cs free room ⟨f,t,b,⟨lt,lp⟩,⟨ht,hp⟩⟩ W' (HA.out.on (hbel9.trans (hW'.mono hbel9.size))) (by have:=HFU.out;omega)).mono fun _ _ ⟨q1,q2⟩=>⟨q1,hW'.trans (q2.mono hW'.size)⟩)
   simp only [Rec.cells] at cPU
   have j0:∀d os,(grow (redrawn w9 d) os).cell? ⟨g,1,none⟩=some (.pointer (some ⟨ga,0,none⟩)):=fun d os=>cell_regrown (FACTS9.out w9 (chg_of_below hbel9)).1 d os
   have j1:∀d os,(grow (redrawn w9 d) os).cell? ⟨w.heap.size,0,none⟩=some (.int .u8 f):=fun d os=>cell_regrown (FACTS9.out w9 (chg_of_below hbel9)).2.1 d os
   have j2:∀d os,(grow (redrawn w9 d) os).cell? ⟨w.heap.size,1,none⟩=some (.int .u8 t):=fun d os=>cell_regrown (FACTS9.out w9 (chg_of_below hbel9)).2.2.1 d os
   have j3:∀d os,(grow (redrawn w9 d) os).cell? ⟨w.heap.size,2,none⟩=some (.int .u8 b):=fun d os=>cell_regrown (FACTS9.out w9 (chg_of_below hbel9)).2.2.2.1 d os
   have j4:∀d os,(grow (redrawn w9 d) os).cell? ⟨w.heap.size,3,none⟩=some (.int .u8 lt):=fun d os=>cell_regrown (FACTS9.out w9 (chg_of_below hbel9)).2.2.2.2.1 d os
   have j5:∀d os,(grow (redrawn w9 d) os).cell? ⟨w.heap.size,4,none⟩=some (.int .u32 lp):=fun d os=>cell_regrown (FACTS9.out w9 (chg_of_below hbel9)).2.2.2.2.2.1 d os
   have j6:∀d os,(grow (redrawn w9 d) os).cell? ⟨w.heap.size,5,none⟩=some (.int .u8 ht):=fun d os=>cell_regrown (FACTS9.out w9 (chg_of_below hbel9)).2.2.2.2.2.2.1 d os
   have j7:∀d os,(grow (redrawn w9 d) os).cell? ⟨w.heap.size,6,none⟩=some (.int .u32 hp):=fun d os=>cell_regrown (FACTS9.out w9 (chg_of_below hbel9)).2.2.2.2.2.2.2 d os
   refine wp_region_quiet_below (by kernel_rfl) (by kernel_rfl) ?_
   repeat (first|go_big_quiet_step ((first|with_reducible exact cPU _ _|fail))|quiet_step ((first|with_reducible exact cPU _ _|fail)))
   refine wpQuiet_nil ?_
   intro w10 hw'
   have hbel10:Below w9.heap.size w9 w10:=regrown_below hw'
   clear hw'
   clear cPU j0 j1 j2 j3 j4 j5 j6 j7
   go_wp2_with fail
   go_ret2
   have hbf:=HbW.out.trans ((hbel9.trans (hbel10.mono hbel9.size)).mono HbW.out.size)
   exact .inr ⟨rfl,by have:=HFU.out;omega,turns_of_below (HST.out.on hbf) hbf⟩
end
end Go.Proofs.YtnlmlehcpngcgaaGreat
