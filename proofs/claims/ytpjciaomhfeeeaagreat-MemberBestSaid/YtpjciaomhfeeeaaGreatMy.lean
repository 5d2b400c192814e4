/- What a store holds behind a new record: plain, and of memory. Contracts: store.Has, Find. -/
import Derived.Test.YtpjciaomhfeeeaaGreatLeads
import Derived.Test.YtpjciaomhfeeeaaGreatMa
section
namespace Go.Proofs.YtpjciaomhfeeeaaGreat
open Go.RowKit
set_option linter.unusedSimpArgs false
set_option linter.unusedVariables false

/-- the id of a record -/
def idOf (cs : List (Option Rec)) (r : Rec) : Option Nat := if some r ∈ cs then some (cs.idxOf (some r) + 2) else none
theorem idOf_eq {cs : List (Option Rec)} {m : Rec → Option Nat} (h : ∀ (r : Rec) (id : Nat), m r = some id ↔ recAt cs id = some r) (r : Rec) : m r = idOf cs r := by
  unfold idOf
  split
  · rename_i hm
    rw [h]
    have hi := List.idxOf_lt_length_of_mem hm
    unfold recAt
    rw [if_pos (by omega), show ((cs.idxOf (some r) + 2 : Nat) : Int) - 2 = ((cs.idxOf (some r) : Nat) : Int) by omega, Int.toNat_natCast, List.getElem?_eq_getElem hi, List.getElem_idxOf]
    rfl
  · rename_i hm
    cases hx : m r with
    | none => rfl
    | some id =>
      exfalso
      apply hm
      exact List.mem_of_getElem? (recAt_some ((h r id).1 hx)).2.2
theorem recAt_snoc (cs : List (Option Rec)) (r : Rec) (id : Nat) : recAt (cs ++ [some r]) id = if id = cs.length + 2 then some r else recAt cs id := by
  unfold recAt
  split
  · rename_i h2
    have e : ((id : Int) - 2).toNat = id - 2 := by omega
    rw [e]
    split
    · rename_i h3
      subst h3
      simp
    · rename_i h3
      rcases Nat.lt_or_ge (id - 2) cs.length with h4 | h4
      · rw [List.getElem?_append_left h4]
      · rw [List.getElem?_eq_none (by simp; omega), List.getElem?_eq_none h4]
  · rename_i h2
    rw [if_neg (by omega)]
theorem upd_recAt {cs : List (Option Rec)} {m : Rec → Option Nat} {r : Rec} (h : ∀ (r : Rec) (id : Nat), m r = some id ↔ recAt cs id = some r) (hn : m r = none) (r' : Rec) (id : Nat) :
    upd m r (cs.length + 2) r' = some id ↔ recAt (cs ++ [some r]) id = some r' := by
  rw [recAt_snoc]
  unfold upd
  split
  · rename_i e
    subst e
    constructor
    · intro h2; injection h2 with h2; rw [if_pos h2.symm]
    · intro h2
      split at h2
      · rename_i h3; rw [h3]
      · rw [← h, hn] at h2; cases h2
  · rename_i e
    split
    · rename_i h3
      constructor
      · intro h4
        exfalso
        have h5 := (recAt_some ((h r' id).1 h4)).2.1
        omega
      · intro h4; injection h4 with h4; exact absurd h4.symm e
    · exact h r' id
theorem StOk.snoc {n room : Nat} {cs : List (Option Rec)} {r : Rec} (h : StOk n room cs []) (hr : r.Wf) (hc : cntC cs < room) : StOk n room (cs ++ [some r]) [] := by
  have h1 := h.cnt
  simp at h1
  refine ⟨h.n16, h.room20, by simp; omega, by rw [cntC_snoc]; simp; omega, fun i r' hi => ?_⟩
  rcases Nat.lt_trichotomy i cs.length with h2 | h2 | h2
  · rw [List.getElem?_append_left h2] at hi; exact h.wf i r' hi
  · subst h2; simp at hi; subst hi; exact hr
  · rw [List.getElem?_eq_none (by simp; omega)] at hi; cases hi
theorem IdxAt.nodup {w : World} {F : List Nat} {g k : Nat} {m : Rec → Option Nat} (h : IdxAt w F g m k) : F.Nodup := by
  obtain ⟨sl, ⟨A, q, c', _, _, _, rfl, hnd⟩, _⟩ := h
  exact hnd
theorem turns_of_below {A : World → List Nat → Prop} {F : List Nat} {w w' : World} (h : A w' F) (hb : Below w.heap.size w w') : Turns A F w w' := ⟨⟨F, h, fun _ hk => .inl hk⟩, chg_of_below hb⟩
theorem store_put_end {w w9 w10 w11 : World} {g ga gi n room : Nat} {Fa Fi : List Nat} {m : Rec → Option Nat} {cs : List (Option Rec)} {r : Rec} (hb : Below w.heap.size w w9) (hF : ∀ k ∈ g :: (Fa ++ Fi), k < w.heap.size)
    (hB : Blk w9 g 102 #[.int .i64 (n : Nat), .pointer (some ⟨ga, 0, none⟩), .pointer (some ⟨gi, 0, none⟩)]) (hnd : (g :: (Fa ++ Fi)).Nodup) (hok : StOk n room cs []) (hr : r.Wf) (hc : cntC cs < room)
    (hm : ∀ (r : Rec) (id : Nat), m r = some id ↔ recAt cs id = some r) (hn : m r = none)
    (hA : Turns (fun W X => ArenaAt W X ga (cs ++ [some r]) [] room) Fa w9 w10) (hI : Turns (fun W X => IdxAt W X gi (upd m r (cs.length + 2)) (cntC cs + 1)) Fi w10.drew w11) :
    Turns (fun W X => StoreAt W X g n room (cs ++ [some r]) []) (g :: (Fa ++ Fi)) w w11 := by
  obtain ⟨⟨Fa', hA', hFa'⟩, hcA⟩ := hA
  obtain ⟨⟨Fi', hI', hFi'⟩, hcI0⟩ := hI
  have hcI : Chg Fi w10 w11 := ⟨hcI0.os, hcI0.tape, hcI0.output, hcI0.size, hcI0.block⟩
  have hFi' : ∀ k ∈ Fi', k ∈ Fi ∨ w10.heap.size ≤ k := hFi'
  have hs9 := hb.size
  have hs10 := hcA.size
  have hAlt := hA'.lt
  rw [List.nodup_cons, List.nodup_append] at hnd
  obtain ⟨n1, n2, n3, n4⟩ := hnd
  have hga : g ∉ Fa := fun h => n1 (by simp [h])
  have hgi : g ∉ Fi := fun h => n1 (by simp [h])
  have hg := hF g (by simp)
  have hdis : ∀ x ∈ Fa', ∀ y ∈ Fi', x ≠ y := fun x hx y hy => by
    rintro rfl
    rcases hFi' x hy with h | h
    · rcases hFa' x hx with h2 | h2
      · exact n4 x h2 x h rfl
      · have := hF x (by simp [h]); omega
    · have := hAlt x hx; omega
  have hdis2 : ∀ x ∈ Fa', ¬ x ∈ Fi := fun x hx h => by
    rcases hFa' x hx with h2 | h2
    · exact n4 x h2 x h rfl
    · have := hF x (by simp [h]); omega
  refine ⟨⟨g :: (Fa' ++ Fi'), ⟨ga, gi, Fa', Fi', upd m r (cs.length + 2), (hB.chg hcA hga).chg hcI hgi, hA'.chg hcI hdis2, ?_, fun r' id => upd_recAt hm hn r' id, rfl, ?_, hok.snoc hr hc⟩, ?_⟩, ?_⟩
  · rw [cntC_snoc]; exact hI'
  · rw [List.nodup_cons, List.nodup_append]
    refine ⟨fun hx => ?_, hA'.nodup, hI'.nodup, hdis⟩
    rcases List.mem_append.1 hx with h | h
    · rcases hFa' g h with h2 | h2
      · exact hga h2
      · omega
    · rcases hFi' g h with h2 | h2
      · exact hgi h2
      · omega
  · intro k hk
    rcases List.mem_cons.1 hk with rfl | hk
    · exact .inl (by simp)
    · rcases List.mem_append.1 hk with h | h
      · rcases hFa' k h with h2 | h2
        · exact .inl (by simp [h2])
        · right; omega
      · rcases hFi' k h with h2 | h2
        · exact .inl (by simp [h2])
        · right; omega
  · exact ((chg_of_below hb).trans hcA (fun x hx => .inl (by simp [hx]))).trans hcI (fun x hx => .inl (by simp [hx]))

/-- what Find does -/
def findP (n room : Nat) (cs : List (Option Rec)) (r : Rec) : Nat × Nat × List (Option Rec) :=
  match idOf cs r with
  | some id => (id, 0, cs)
  | none => if right r n && leads cs n r.form r.lo (r.bot + 1) && leads cs n r.form r.hi (r.bot + 1) then (if cntC cs < room then (cs.length + 2, 0, cs ++ [some r]) else (0, 6, cs)) else (0, 1, cs)
theorem idOf_le {cs : List (Option Rec)} {r : Rec} {id : Nat} (h : idOf cs r = some id) : 2 ≤ id ∧ id ≤ cs.length + 1 := by
  unfold idOf at h
  split at h
  · rename_i hm
    injection h with h
    have := List.idxOf_lt_length_of_mem hm
    omega
  · cases h
end Go.Proofs.YtpjciaomhfeeeaaGreat
end

section
namespace Go.Proofs.YtpjciaomhfeeeaaGreat
open Go.RowKit Go.Sort
set_option linter.unusedSimpArgs false
set_option linter.unusedVariables false

set_option maxRecDepth 100000 in
set_option maxHeartbeats 4000000 in
theorem storeHas_any (F : List Nat) (g n room : Nat) (cs : List (Option Rec)) (free : List Int) (r : Rec) (w : World) (h : StoreAt w F g n room cs free) (hr : r.Wf) :
    Calls Tryz.prog 36 #[.pointer (some ⟨g, 0, none⟩), .agg r.cells.toArray] w fun e w' => e = .returned (getV (idOf cs r)) ∧ Below w.heap.size w w' := by
  have hst := h
  obtain ⟨ga, gi, Fa, Fi, m, hB, hA, hI, h4, hFe, h6, h7⟩ := h
  have hlt := hB.lt
  have HR := Lib.hid hr
  have HST := Lib.hid hst
  have HOK := Lib.hid h7
  have HM4 := Lib.hid h4
  have HFE := Lib.hid hFe
  have HND := Lib.hid h6
  have HID := Lib.hid (fun r => idOf_eq h4 r)
  obtain ⟨f, t, b, ⟨lt, lp⟩, ⟨ht, hp⟩⟩ := r
  obtain ⟨⟨r1, r2⟩, ⟨r3, r4⟩, ⟨r5, r6⟩, ⟨r7, r8, r9, r10⟩, ⟨r11, r12, r13, r14⟩⟩ := hr
  simp only at r1 r2 r3 r4 r5 r6 r7 r8 r9 r10 r11 r12 r13 r14
  simp only [Rec.cells]
  obtain ⟨W, hW⟩ : ∃ W, W = w.alloc (.cells #[.int .u8 f, .int .u8 t, .int .u8 b, .int .u8 lt, .int .u32 lp, .int .u8 ht, .int .u32 hp] 62) := ⟨_, rfl⟩
  have hbW : Below w.heap.size w W := by rw [hW]; exact (Below.refl _ _).alloc (Nat.le_refl _) _
  have hK : Blk W w.heap.size 62 #[.int .u8 f, .int .u8 t, .int .u8 b, .int .u8 lt, .int .u32 lp, .int .u8 ht, .int .u32 hp] := by rw [hW]; exact Blk.new w _ _
  have hkW := hK.lt
  have hgW : g < W.heap.size := by have := hbW.size; omega
  have HWW := Lib.hid hW
  have HbW := Lib.hid hbW
  have HI := Lib.hid (hI.on hbW)
  have HA := Lib.hid (hA.on hbW)
  have HSW := Lib.hid (hst.on hbW)
  have HBW := Lib.hid (hB.on' hbW)
  have FACTS : Hid (∀ W', Below W.heap.size W W' → W'.cell? ⟨g, 2, none⟩ = some (.pointer (some ⟨gi, 0, none⟩)) ∧ W'.cell? ⟨w.heap.size, 0, none⟩ = some (.int .u8 f) ∧ W'.cell? ⟨w.heap.size, 1, none⟩ = some (.int .u8 t) ∧ W'.cell? ⟨w.heap.size, 2, none⟩ = some (.int .u8 b) ∧ W'.cell? ⟨w.heap.size, 3, none⟩ = some (.int .u8 lt) ∧ W'.cell? ⟨w.heap.size, 4, none⟩ = some (.int .u32 lp) ∧ W'.cell? ⟨w.heap.size, 5, none⟩ = some (.int .u8 ht) ∧ W'.cell? ⟨w.heap.size, 6, none⟩ = some (.int .u32 hp)) := Lib.hid fun W' hW' => ⟨(hW'.cell (p := ⟨g, 2, none⟩) hgW).trans ((hB.on' hbW).cell 2), (hW'.cell (p := ⟨w.heap.size, 0, none⟩) hkW).trans (hK.cell 0), (hW'.cell (p := ⟨w.heap.size, 1, none⟩) hkW).trans (hK.cell 1), (hW'.cell (p := ⟨w.heap.size, 2, none⟩) hkW).trans (hK.cell 2), (hW'.cell (p := ⟨w.heap.size, 3, none⟩) hkW).trans (hK.cell 3), (hW'.cell (p := ⟨w.heap.size, 4, none⟩) hkW).trans (hK.cell 4), (hW'.cell (p := ⟨w.heap.size, 5, none⟩) hkW).trans (hK.cell 5), (hW'.cell (p := ⟨w.heap.size, 6, none⟩) hkW).trans (hK.cell 6)⟩
  have hGT : ∀ W', Below W.heap.size W W' → Calls Tryz.prog 42 #[.pointer (some ⟨gi, 0, none⟩), .agg #[.int .u8 f, .int .u8 t, .int .u8 b, .int .u8 lt, .int .u32 lp, .int .u8 ht, .int .u32 hp]] W' fun r w' => r = .returned (getV (idOf cs ⟨f, t, b, ⟨lt, lp⟩, ⟨ht, hp⟩⟩)) ∧ Below W.heap.size W w' := fun W' hW' => by
    have h := idxGet_any Fi gi (cntC cs) m ⟨f, t, b, ⟨lt, lp⟩, ⟨ht, hp⟩⟩ W' (HI.out.on hW') HR.out
    rw [HID.out] at h
    exact h.mono fun _ _ ⟨q1, q2⟩ => ⟨q1, hW'.trans (q2.mono hW'.size)⟩
  have HGT := Lib.hid hGT
  have hk0 := FACTS.out _ (Below.refl _ _)
  clear hB hA hI h4 hFe h6 h7 hst hbW hK hGT
  cases hx : idOf cs ⟨f, t, b, ⟨lt, lp⟩, ⟨ht, hp⟩⟩ with
  | none =>
    have HX := Lib.hid hx
    clear hx
    go_enter Tryz.func36, Tryz.ntmps36
    go_wp2_with fail
    rw [← HWW.out]
    clear hW
    have j0 : ∀ d os, (grow (redrawn W d) os).cell? ⟨g, 2, none⟩ = some (.pointer (some ⟨gi, 0, none⟩)) := fun d os => cell_regrown (FACTS.out W (Below.refl _ _)).1 d os
    have j1 : ∀ d os, (grow (redrawn W d) os).cell? ⟨w.heap.size, 0, none⟩ = some (.int .u8 f) := fun d os => cell_regrown (FACTS.out W (Below.refl _ _)).2.1 d os
    have j2 : ∀ d os, (grow (redrawn W d) os).cell? ⟨w.heap.size, 1, none⟩ = some (.int .u8 t) := fun d os => cell_regrown (FACTS.out W (Below.refl _ _)).2.2.1 d os
    have j3 : ∀ d os, (grow (redrawn W d) os).cell? ⟨w.heap.size, 2, none⟩ = some (.int .u8 b) := fun d os => cell_regrown (FACTS.out W (Below.refl _ _)).2.2.2.1 d os
    have j4 : ∀ d os, (grow (redrawn W d) os).cell? ⟨w.heap.size, 3, none⟩ = some (.int .u8 lt) := fun d os => cell_regrown (FACTS.out W (Below.refl _ _)).2.2.2.2.1 d os
    have j5 : ∀ d os, (grow (redrawn W d) os).cell? ⟨w.heap.size, 4, none⟩ = some (.int .u32 lp) := fun d os => cell_regrown (FACTS.out W (Below.refl _ _)).2.2.2.2.2.1 d os
    have j6 : ∀ d os, (grow (redrawn W d) os).cell? ⟨w.heap.size, 5, none⟩ = some (.int .u8 ht) := fun d os => cell_regrown (FACTS.out W (Below.refl _ _)).2.2.2.2.2.2.1 d os
    have j7 : ∀ d os, (grow (redrawn W d) os).cell? ⟨w.heap.size, 6, none⟩ = some (.int .u32 hp) := fun d os => cell_regrown (FACTS.out W (Below.refl _ _)).2.2.2.2.2.2.2 d os
    have cGT := regrown_calls HGT.out
    rw [HX.out] at cGT
    unfold getV at cGT
    simp only at cGT
    refine wp_region_quiet_below (by kernel_rfl) (by kernel_rfl) ?_
    repeat (first | go_big_quiet_step ((first | with_reducible exact cGT _ _ | fail)) | quiet_step ((first | with_reducible exact cGT _ _ | fail)))
    refine wpQuiet_nil ?_
    intro w6 hw'
    have hbel6 : Below W.heap.size W w6 := regrown_below hw'
    clear hw'
    clear cGT j0 j1 j2 j3 j4 j5 j6 j7
    go_wp2_with fail
    go_ret2
    exact ⟨rfl, HbW.out.trans (hbel6.mono HbW.out.size)⟩
  | some id =>
    have HX := Lib.hid hx
    clear hx
    go_enter Tryz.func36, Tryz.ntmps36
    go_wp2_with fail
    rw [← HWW.out]
    clear hW
    have j0 : ∀ d os, (grow (redrawn W d) os).cell? ⟨g, 2, none⟩ = some (.pointer (some ⟨gi, 0, none⟩)) := fun d os => cell_regrown (FACTS.out W (Below.refl _ _)).1 d os
    have j1 : ∀ d os, (grow (redrawn W d) os).cell? ⟨w.heap.size, 0, none⟩ = some (.int .u8 f) := fun d os => cell_regrown (FACTS.out W (Below.refl _ _)).2.1 d os
    have j2 : ∀ d os, (grow (redrawn W d) os).cell? ⟨w.heap.size, 1, none⟩ = some (.int .u8 t) := fun d os => cell_regrown (FACTS.out W (Below.refl _ _)).2.2.1 d os
    have j3 : ∀ d os, (grow (redrawn W d) os).cell? ⟨w.heap.size, 2, none⟩ = some (.int .u8 b) := fun d os => cell_regrown (FACTS.out W (Below.refl _ _)).2.2.2.1 d os
    have j4 : ∀ d os, (grow (redrawn W d) os).cell? ⟨w.heap.size, 3, none⟩ = some (.int .u8 lt) := fun d os => cell_regrown (FACTS.out W (Below.refl _ _)).2.2.2.2.1 d os
    have j5 : ∀ d os, (grow (redrawn W d) os).cell? ⟨w.heap.size, 4, none⟩ = some (.int .u32 lp) := fun d os => cell_regrown (FACTS.out W (Below.refl _ _)).2.2.2.2.2.1 d os
    have j6 : ∀ d os, (grow (redrawn W d) os).cell? ⟨w.heap.size, 5, none⟩ = some (.int .u8 ht) := fun d os => cell_regrown (FACTS.out W (Below.refl _ _)).2.2.2.2.2.2.1 d os
    have j7 : ∀ d os, (grow (redrawn W d) os).cell? ⟨w.heap.size, 6, none⟩ = some (.int .u32 hp) := fun d os => cell_regrown (FACTS.out W (Below.refl _ _)).2.2.2.2.2.2.2 d os
    have cGT := regrown_calls HGT.out
    rw [HX.out] at cGT
    unfold getV at cGT
    simp only at cGT
    refine wp_region_quiet_below (by kernel_rfl) (by kernel_rfl) ?_
    repeat (first | go_big_quiet_step ((first | with_reducible exact cGT _ _ | fail)) | quiet_step ((first | with_reducible exact cGT _ _ | fail)))
    refine wpQuiet_nil ?_
    intro w6 hw'
    have hbel6 : Below W.heap.size W w6 := regrown_below hw'
    clear hw'
    clear cGT j0 j1 j2 j3 j4 j5 j6 j7
    go_wp2_with fail
    go_ret2
    exact ⟨rfl, HbW.out.trans (hbel6.mono HbW.out.size)⟩
set_option maxRecDepth 100000 in
set_option maxHeartbeats 4000000 in
theorem find_store (F : List Nat) (g n room : Nat) (cs : List (Option Rec)) (r : Rec) (w : World) (h : StoreAt w F g n room cs []) (hr : r.Wf) :
    Calls Tryz.prog 19 #[.pointer (some ⟨g, 0, none⟩), .agg r.cells.toArray] w fun e w' => e = .returned (.tuple #[.int .u32 (findP n room cs r).1, .int .u8 (findP n room cs r).2.1]) ∧ Turns (fun W X => StoreAt W X g n room (findP n room cs r).2.2 []) F w w' := by
  have hst := h
  obtain ⟨ga, gi, Fa, Fi, m, hB, hA, hI, h4, hFe, h6, h7⟩ := h
  have hlt := hB.lt
  have HR := Lib.hid hr
  have HST := Lib.hid hst
  have HOK := Lib.hid h7
  have HM4 := Lib.hid h4
  have HFE := Lib.hid hFe
  have HND := Lib.hid h6
  have HID := Lib.hid (fun r => idOf_eq h4 r)
  obtain ⟨f, t, b, ⟨lt, lp⟩, ⟨ht, hp⟩⟩ := r
  obtain ⟨⟨r1, r2⟩, ⟨r3, r4⟩, ⟨r5, r6⟩, ⟨r7, r8, r9, r10⟩, ⟨r11, r12, r13, r14⟩⟩ := hr
  simp only at r1 r2 r3 r4 r5 r6 r7 r8 r9 r10 r11 r12 r13 r14
  simp only [Rec.cells]
  obtain ⟨W, hW⟩ : ∃ W, W = w.alloc (.cells #[.int .u8 f, .int .u8 t, .int .u8 b, .int .u8 lt, .int .u32 lp, .int .u8 ht, .int .u32 hp] 62) := ⟨_, rfl⟩
  have hbW : Below w.heap.size w W := by rw [hW]; exact (Below.refl _ _).alloc (Nat.le_refl _) _
  have hK : Blk W w.heap.size 62 #[.int .u8 f, .int .u8 t, .int .u8 b, .int .u8 lt, .int .u32 lp, .int .u8 ht, .int .u32 hp] := by rw [hW]; exact Blk.new w _ _
  have hkW := hK.lt
  have hgW : g < W.heap.size := by have := hbW.size; omega
  have HWW := Lib.hid hW
  have HbW := Lib.hid hbW
  have HI := Lib.hid (hI.on hbW)
  have HA := Lib.hid (hA.on hbW)
  have HSW := Lib.hid (hst.on hbW)
  have HBW := Lib.hid (hB.on' hbW)
  have FACTS : Hid (∀ W', Below W.heap.size W W' → W'.cell? ⟨g, 2, none⟩ = some (.pointer (some ⟨gi, 0, none⟩)) ∧ W'.cell? ⟨w.heap.size, 0, none⟩ = some (.int .u8 f) ∧ W'.cell? ⟨w.heap.size, 1, none⟩ = some (.int .u8 t) ∧ W'.cell? ⟨w.heap.size, 2, none⟩ = some (.int .u8 b) ∧ W'.cell? ⟨w.heap.size, 3, none⟩ = some (.int .u8 lt) ∧ W'.cell? ⟨w.heap.size, 4, none⟩ = some (.int .u32 lp) ∧ W'.cell? ⟨w.heap.size, 5, none⟩ = some (.int .u8 ht) ∧ W'.cell? ⟨w.heap.size, 6, none⟩ = some (.int .u32 hp)) := Lib.hid fun W' hW' => ⟨(hW'.cell (p := ⟨g, 2, none⟩) hgW).trans ((hB.on' hbW).cell 2), (hW'.cell (p := ⟨w.heap.size, 0, none⟩) hkW).trans (hK.cell 0), (hW'.cell (p := ⟨w.heap.size, 1, none⟩) hkW).trans (hK.cell 1), (hW'.cell (p := ⟨w.heap.size, 2, none⟩) hkW).trans (hK.cell 2), (hW'.cell (p := ⟨w.heap.size, 3, none⟩) hkW).trans (hK.cell 3), (hW'.cell (p := ⟨w.heap.size, 4, none⟩) hkW).trans (hK.cell 4), (hW'.cell (p := ⟨w.heap.size, 5, none⟩) hkW).trans (hK.cell 5), (hW'.cell (p := ⟨w.heap.size, 6, none⟩) hkW).trans (hK.cell 6)⟩
  have hGT : ∀ W', Below W.heap.size W W' → Calls Tryz.prog 42 #[.pointer (some ⟨gi, 0, none⟩), .agg #[.int .u8 f, .int .u8 t, .int .u8 b, .int .u8 lt, .int .u32 lp, .int .u8 ht, .int .u32 hp]] W' fun r w' => r = .returned (getV (idOf cs ⟨f, t, b, ⟨lt, lp⟩, ⟨ht, hp⟩⟩)) ∧ Below W.heap.size W w' := fun W' hW' => by
    have h := idxGet_any Fi gi (cntC cs) m ⟨f, t, b, ⟨lt, lp⟩, ⟨ht, hp⟩⟩ W' (HI.out.on hW') HR.out
    rw [HID.out] at h
    exact h.mono fun _ _ ⟨q1, q2⟩ => ⟨q1, hW'.trans (q2.mono hW'.size)⟩
  have HGT := Lib.hid hGT
  have FACTS7 : Hid (∀ W', Below W.heap.size W W' → W'.cell? ⟨g, 0, none⟩ = some (.int .i64 (n : Nat)) ∧ W'.cell? ⟨w.heap.size, 0, none⟩ = some (.int .u8 f) ∧ W'.cell? ⟨w.heap.size, 1, none⟩ = some (.int .u8 t) ∧ W'.cell? ⟨w.heap.size, 2, none⟩ = some (.int .u8 b) ∧ W'.cell? ⟨w.heap.size, 3, none⟩ = some (.int .u8 lt) ∧ W'.cell? ⟨w.heap.size, 4, none⟩ = some (.int .u32 lp) ∧ W'.cell? ⟨w.heap.size, 5, none⟩ = some (.int .u8 ht) ∧ W'.cell? ⟨w.heap.size, 6, none⟩ = some (.int .u32 hp)) := Lib.hid fun W' hW' => ⟨(hW'.cell (p := ⟨g, 0, none⟩) hgW).trans ((hB.on' hbW).cell 0), (hW'.cell (p := ⟨w.heap.size, 0, none⟩) hkW).trans (hK.cell 0), (hW'.cell (p := ⟨w.heap.size, 1, none⟩) hkW).trans (hK.cell 1), (hW'.cell (p := ⟨w.heap.size, 2, none⟩) hkW).trans (hK.cell 2), (hW'.cell (p := ⟨w.heap.size, 3, none⟩) hkW).trans (hK.cell 3), (hW'.cell (p := ⟨w.heap.size, 4, none⟩) hkW).trans (hK.cell 4), (hW'.cell (p := ⟨w.heap.size, 5, none⟩) hkW).trans (hK.cell 5), (hW'.cell (p := ⟨w.heap.size, 6, none⟩) hkW).trans (hK.cell 6)⟩
  have hbox : w.heap.size ∉ Fa := fun h => by have := hA.lt _ h; omega
  have hgFa : g ∉ Fa := fun h => by rw [hFe, List.nodup_cons] at h6; exact h6.1 (by simp [h])
  have hgFi : g ∉ Fi := fun h => by rw [hFe, List.nodup_cons] at h6; exact h6.1 (by simp [h])
  have hboxi : w.heap.size ∉ Fi := fun h => by have := hI.lt _ h; omega
  have hgG : g ∉ Fa ++ Fi := by simp [hgFa, hgFi]
  have hboxG : w.heap.size ∉ Fa ++ Fi := by simp [hbox, hboxi]
  have hdis : ∀ k ∈ Fi, ¬ k ∈ Fa := fun k hk hk2 => by rw [hFe, List.nodup_cons, List.nodup_append] at h6; exact h6.2.2.2 k hk2 k hk rfl
  have FACTS9 : Hid (∀ W', Chg (Fa ++ Fi) W W' → W'.cell? ⟨g, 1, none⟩ = some (.pointer (some ⟨ga, 0, none⟩)) ∧ W'.cell? ⟨w.heap.size, 0, none⟩ = some (.int .u8 f) ∧ W'.cell? ⟨w.heap.size, 1, none⟩ = some (.int .u8 t) ∧ W'.cell? ⟨w.heap.size, 2, none⟩ = some (.int .u8 b) ∧ W'.cell? ⟨w.heap.size, 3, none⟩ = some (.int .u8 lt) ∧ W'.cell? ⟨w.heap.size, 4, none⟩ = some (.int .u32 lp) ∧ W'.cell? ⟨w.heap.size, 5, none⟩ = some (.int .u8 ht) ∧ W'.cell? ⟨w.heap.size, 6, none⟩ = some (.int .u32 hp)) := Lib.hid fun W' hW' => ⟨(hW'.cell (p := ⟨g, 1, none⟩) hgW hgG).trans ((hB.on' hbW).cell 1), (hW'.cell (p := ⟨w.heap.size, 0, none⟩) hkW hboxG).trans (hK.cell 0), (hW'.cell (p := ⟨w.heap.size, 1, none⟩) hkW hboxG).trans (hK.cell 1), (hW'.cell (p := ⟨w.heap.size, 2, none⟩) hkW hboxG).trans (hK.cell 2), (hW'.cell (p := ⟨w.heap.size, 3, none⟩) hkW hboxG).trans (hK.cell 3), (hW'.cell (p := ⟨w.heap.size, 4, none⟩) hkW hboxG).trans (hK.cell 4), (hW'.cell (p := ⟨w.heap.size, 5, none⟩) hkW hboxG).trans (hK.cell 5), (hW'.cell (p := ⟨w.heap.size, 6, none⟩) hkW hboxG).trans (hK.cell 6)⟩
  have FACTS12 : Hid (∀ W', Chg (Fa ++ Fi) W W' → W'.cell? ⟨g, 2, none⟩ = some (.pointer (some ⟨gi, 0, none⟩)) ∧ W'.cell? ⟨w.heap.size, 0, none⟩ = some (.int .u8 f) ∧ W'.cell? ⟨w.heap.size, 1, none⟩ = some (.int .u8 t) ∧ W'.cell? ⟨w.heap.size, 2, none⟩ = some (.int .u8 b) ∧ W'.cell? ⟨w.heap.size, 3, none⟩ = some (.int .u8 lt) ∧ W'.cell? ⟨w.heap.size, 4, none⟩ = some (.int .u32 lp) ∧ W'.cell? ⟨w.heap.size, 5, none⟩ = some (.int .u8 ht) ∧ W'.cell? ⟨w.heap.size, 6, none⟩ = some (.int .u32 hp)) := Lib.hid fun W' hW' => ⟨(hW'.cell (p := ⟨g, 2, none⟩) hgW hgG).trans ((hB.on' hbW).cell 2), (hW'.cell (p := ⟨w.heap.size, 0, none⟩) hkW hboxG).trans (hK.cell 0), (hW'.cell (p := ⟨w.heap.size, 1, none⟩) hkW hboxG).trans (hK.cell 1), (hW'.cell (p := ⟨w.heap.size, 2, none⟩) hkW hboxG).trans (hK.cell 2), (hW'.cell (p := ⟨w.heap.size, 3, none⟩) hkW hboxG).trans (hK.cell 3), (hW'.cell (p := ⟨w.heap.size, 4, none⟩) hkW hboxG).trans (hK.cell 4), (hW'.cell (p := ⟨w.heap.size, 5, none⟩) hkW hboxG).trans (hK.cell 5), (hW'.cell (p := ⟨w.heap.size, 6, none⟩) hkW hboxG).trans (hK.cell 6)⟩
  have HDIS := Lib.hid hdis
  have hRI : ∀ W', Below W.heap.size W W' → Calls Tryz.prog 43 #[.agg #[.int .u8 f, .int .u8 t, .int .u8 b, .int .u8 lt, .int .u32 lp, .int .u8 ht, .int .u32 hp], .int .i64 (n : Nat)] W' fun r w' => r = .returned (.bool (right ⟨f, t, b, ⟨lt, lp⟩, ⟨ht, hp⟩⟩ n)) ∧ Below W'.heap.size W' w' := fun W' hW' => (right_any ⟨f, t, b, ⟨lt, lp⟩, ⟨ht, hp⟩⟩ n W' HR.out (by have := HOK.out.n16; omega)).mono fun _ _ ⟨q1, q2⟩ => ⟨q1, q2⟩
  have HRI := Lib.hid hRI
  have hLO : ∀ W', Below W.heap.size W W' → Calls Tryz.prog 44 #[.pointer (some ⟨g, 0, none⟩), .int .u8 f, .agg #[.int .u8 lt, .int .u32 lp], .int .i64 (b + 1)] W' fun r w' => r = .returned (.bool (leads cs n f ⟨lt, lp⟩ (b + 1))) ∧ Below W'.heap.size W' w' := fun W' hW' => (leads_any F g n room cs [] f ⟨lt, lp⟩ (b + 1) W' (HSW.out.on hW') ⟨r1, r2⟩ ⟨r7, r8, r9, r10⟩).mono fun _ _ ⟨q1, q2⟩ => ⟨q1, q2⟩
  have HLO := Lib.hid hLO
  have hHI : ∀ W', Below W.heap.size W W' → Calls Tryz.prog 44 #[.pointer (some ⟨g, 0, none⟩), .int .u8 f, .agg #[.int .u8 ht, .int .u32 hp], .int .i64 (b + 1)] W' fun r w' => r = .returned (.bool (leads cs n f ⟨ht, hp⟩ (b + 1))) ∧ Below W'.heap.size W' w' := fun W' hW' => (leads_any F g n room cs [] f ⟨ht, hp⟩ (b + 1) W' (HSW.out.on hW') ⟨r1, r2⟩ ⟨r11, r12, r13, r14⟩).mono fun _ _ ⟨q1, q2⟩ => ⟨q1, q2⟩
  have HHI := Lib.hid hHI
  have hk0 := FACTS.out _ (Below.refl _ _)
  clear hB hA hI h4 hFe h6 h7 hst hbW hK hGT hRI hLO hHI hgG hboxG hdis hbox hgFa hboxi hgFi r3 r4 r7 r8 r9 r10 r11 r12 r13 r14
  cases hx : idOf cs ⟨f, t, b, ⟨lt, lp⟩, ⟨ht, hp⟩⟩ with
  | some id =>
    have HX := Lib.hid hx
    have HFP : Hid (findP n room cs ⟨f, t, b, ⟨lt, lp⟩, ⟨ht, hp⟩⟩ = (id, 0, cs)) := Lib.hid (by unfold findP; rw [hx])
    clear hx
    go_enter Tryz.func19, Tryz.ntmps19
    go_wp2_with fail
    rw [← HWW.out]
    clear hW
    have j0 : ∀ d os, (grow (redrawn W d) os).cell? ⟨g, 2, none⟩ = some (.pointer (some ⟨gi, 0, none⟩)) := fun d os => cell_regrown (FACTS.out W (Below.refl _ _)).1 d os
    have j1 : ∀ d os, (grow (redrawn W d) os).cell? ⟨w.heap.size, 0, none⟩ = some (.int .u8 f) := fun d os => cell_regrown (FACTS.out W (Below.refl _ _)).2.1 d os
    have j2 : ∀ d os, (grow (redrawn W d) os).cell? ⟨w.heap.size, 1, none⟩ = some (.int .u8 t) := fun d os => cell_regrown (FACTS.out W (Below.refl _ _)).2.2.1 d os
    have j3 : ∀ d os, (grow (redrawn W d) os).cell? ⟨w.heap.size, 2, none⟩ = some (.int .u8 b) := fun d os => cell_regrown (FACTS.out W (Below.refl _ _)).2.2.2.1 d os
    have j4 : ∀ d os, (grow (redrawn W d) os).cell? ⟨w.heap.size, 3, none⟩ = some (.int .u8 lt) := fun d os => cell_regrown (FACTS.out W (Below.refl _ _)).2.2.2.2.1 d os
    have j5 : ∀ d os, (grow (redrawn W d) os).cell? ⟨w.heap.size, 4, none⟩ = some (.int .u32 lp) := fun d os => cell_regrown (FACTS.out W (Below.refl _ _)).2.2.2.2.2.1 d os
    have j6 : ∀ d os, (grow (redrawn W d) os).cell? ⟨w.heap.size, 5, none⟩ = some (.int .u8 ht) := fun d os => cell_regrown (FACTS.out W (Below.refl _ _)).2.2.2.2.2.2.1 d os
    have j7 : ∀ d os, (grow (redrawn W d) os).cell? ⟨w.heap.size, 6, none⟩ = some (.int .u32 hp) := fun d os => cell_regrown (FACTS.out W (Below.refl _ _)).2.2.2.2.2.2.2 d os
    have cGT := regrown_calls HGT.out
    rw [HX.out] at cGT
    unfold getV at cGT
    simp only at cGT
    refine wp_region_quiet_below (by kernel_rfl) (by kernel_rfl) ?_
    repeat (first | go_big_quiet_step ((first | with_reducible exact cGT _ _ | fail)) | quiet_step ((first | with_reducible exact cGT _ _ | fail)))
    refine wpQuiet_nil ?_
    intro w6 hw'
    have hbel6 : Below W.heap.size W w6 := regrown_below hw'
    clear hw'
    clear cGT j0 j1 j2 j3 j4 j5 j6 j7
    go_wp2_with fail
    go_ret2
    have hbf := HbW.out.trans (hbel6.mono HbW.out.size)
    rw [HFP.out]
    exact ⟨rfl, turns_of_below (HST.out.on hbf) hbf⟩
  | none =>
    have HX := Lib.hid hx
    clear hx
    cases hri : right ⟨f, t, b, ⟨lt, lp⟩, ⟨ht, hp⟩⟩ n
    · have HRT := Lib.hid hri
      have HFP : Hid (findP n room cs ⟨f, t, b, ⟨lt, lp⟩, ⟨ht, hp⟩⟩ = (0, 1, cs)) := Lib.hid (by unfold findP; rw [HX.out, hri]; rfl)
      clear hri
      go_enter Tryz.func19, Tryz.ntmps19
      go_wp2_with fail
      rw [← HWW.out]
      clear hW
      have j0 : ∀ d os, (grow (redrawn W d) os).cell? ⟨g, 2, none⟩ = some (.pointer (some ⟨gi, 0, none⟩)) := fun d os => cell_regrown (FACTS.out W (Below.refl _ _)).1 d os
      have j1 : ∀ d os, (grow (redrawn W d) os).cell? ⟨w.heap.size, 0, none⟩ = some (.int .u8 f) := fun d os => cell_regrown (FACTS.out W (Below.refl _ _)).2.1 d os
      have j2 : ∀ d os, (grow (redrawn W d) os).cell? ⟨w.heap.size, 1, none⟩ = some (.int .u8 t) := fun d os => cell_regrown (FACTS.out W (Below.refl _ _)).2.2.1 d os
      have j3 : ∀ d os, (grow (redrawn W d) os).cell? ⟨w.heap.size, 2, none⟩ = some (.int .u8 b) := fun d os => cell_regrown (FACTS.out W (Below.refl _ _)).2.2.2.1 d os
      have j4 : ∀ d os, (grow (redrawn W d) os).cell? ⟨w.heap.size, 3, none⟩ = some (.int .u8 lt) := fun d os => cell_regrown (FACTS.out W (Below.refl _ _)).2.2.2.2.1 d os
      have j5 : ∀ d os, (grow (redrawn W d) os).cell? ⟨w.heap.size, 4, none⟩ = some (.int .u32 lp) := fun d os => cell_regrown (FACTS.out W (Below.refl _ _)).2.2.2.2.2.1 d os
      have j6 : ∀ d os, (grow (redrawn W d) os).cell? ⟨w.heap.size, 5, none⟩ = some (.int .u8 ht) := fun d os => cell_regrown (FACTS.out W (Below.refl _ _)).2.2.2.2.2.2.1 d os
      have j7 : ∀ d os, (grow (redrawn W d) os).cell? ⟨w.heap.size, 6, none⟩ = some (.int .u32 hp) := fun d os => cell_regrown (FACTS.out W (Below.refl _ _)).2.2.2.2.2.2.2 d os
      have cGT := regrown_calls HGT.out
      rw [HX.out] at cGT
      unfold getV at cGT
      simp only at cGT
      refine wp_region_quiet_below (by kernel_rfl) (by kernel_rfl) ?_
      repeat (first | go_big_quiet_step ((first | with_reducible exact cGT _ _ | fail)) | quiet_step ((first | with_reducible exact cGT _ _ | fail)))
      refine wpQuiet_nil ?_
      intro w6 hw'
      have hbel6 : Below W.heap.size W w6 := regrown_below hw'
      clear hw'
      clear cGT j0 j1 j2 j3 j4 j5 j6 j7
      have hk2 := (FACTS.out _ hbel6).2.2.2.1
      go_wp2_with fail
      clear hk2
      have j0 : ∀ d os, (grow (redrawn w6 d) os).cell? ⟨g, 0, none⟩ = some (.int .i64 (n : Nat)) := fun d os => cell_regrown (FACTS7.out w6 hbel6).1 d os
      have j1 : ∀ d os, (grow (redrawn w6 d) os).cell? ⟨w.heap.size, 0, none⟩ = some (.int .u8 f) := fun d os => cell_regrown (FACTS7.out w6 hbel6).2.1 d os
      have j2 : ∀ d os, (grow (redrawn w6 d) os).cell? ⟨w.heap.size, 1, none⟩ = some (.int .u8 t) := fun d os => cell_regrown (FACTS7.out w6 hbel6).2.2.1 d os
      have j3 : ∀ d os, (grow (redrawn w6 d) os).cell? ⟨w.heap.size, 2, none⟩ = some (.int .u8 b) := fun d os => cell_regrown (FACTS7.out w6 hbel6).2.2.2.1 d os
      have j4 : ∀ d os, (grow (redrawn w6 d) os).cell? ⟨w.heap.size, 3, none⟩ = some (.int .u8 lt) := fun d os => cell_regrown (FACTS7.out w6 hbel6).2.2.2.2.1 d os
      have j5 : ∀ d os, (grow (redrawn w6 d) os).cell? ⟨w.heap.size, 4, none⟩ = some (.int .u32 lp) := fun d os => cell_regrown (FACTS7.out w6 hbel6).2.2.2.2.2.1 d os
      have j6 : ∀ d os, (grow (redrawn w6 d) os).cell? ⟨w.heap.size, 5, none⟩ = some (.int .u8 ht) := fun d os => cell_regrown (FACTS7.out w6 hbel6).2.2.2.2.2.2.1 d os
      have j7 : ∀ d os, (grow (redrawn w6 d) os).cell? ⟨w.heap.size, 6, none⟩ = some (.int .u32 hp) := fun d os => cell_regrown (FACTS7.out w6 hbel6).2.2.2.2.2.2.2 d os
      have cRI := regrown_calls (W := w6) (fun W' hW' => (HRI.out W' (hbel6.trans (hW'.mono hbel6.size))).mono fun _ _ ⟨q1, q2⟩ => ⟨q1, hW'.trans (q2.mono hW'.size)⟩)
      rw [HRT.out] at cRI
      refine wp_region_quiet_below (by kernel_rfl) (by kernel_rfl) ?_
      repeat (first | go_big_quiet_step ((first | with_reducible exact cRI _ _ | fail)) | quiet_step ((first | with_reducible exact cRI _ _ | fail)))
      refine wpQuiet_nil ?_
      intro w9 hw'
      have hbel69 : Below w6.heap.size w6 w9 := regrown_below hw'
      clear hw'
      have hbel9 := hbel6.trans (hbel69.mono hbel6.size)
      clear cRI j0 j1 j2 j3 j4 j5 j6 j7
      go_wp2_with fail
      go_ret2
      have hbf := HbW.out.trans (hbel9.mono HbW.out.size)
      rw [HFP.out]
      exact ⟨rfl, turns_of_below (HST.out.on hbf) hbf⟩
    · have HRT := Lib.hid hri
      cases hlo : leads cs n f ⟨lt, lp⟩ (b + 1)
      · have HLT := Lib.hid hlo
        have HFP : Hid (findP n room cs ⟨f, t, b, ⟨lt, lp⟩, ⟨ht, hp⟩⟩ = (0, 1, cs)) := Lib.hid (by unfold findP; rw [HX.out, hri, hlo]; rfl)
        clear hri hlo
        go_enter Tryz.func19, Tryz.ntmps19
        go_wp2_with fail
        rw [← HWW.out]
        clear hW
        have j0 : ∀ d os, (grow (redrawn W d) os).cell? ⟨g, 2, none⟩ = some (.pointer (some ⟨gi, 0, none⟩)) := fun d os => cell_regrown (FACTS.out W (Below.refl _ _)).1 d os
        have j1 : ∀ d os, (grow (redrawn W d) os).cell? ⟨w.heap.size, 0, none⟩ = some (.int .u8 f) := fun d os => cell_regrown (FACTS.out W (Below.refl _ _)).2.1 d os
        have j2 : ∀ d os, (grow (redrawn W d) os).cell? ⟨w.heap.size, 1, none⟩ = some (.int .u8 t) := fun d os => cell_regrown (FACTS.out W (Below.refl _ _)).2.2.1 d os
        have j3 : ∀ d os, (grow (redrawn W d) os).cell? ⟨w.heap.size, 2, none⟩ = some (.int .u8 b) := fun d os => cell_regrown (FACTS.out W (Below.refl _ _)).2.2.2.1 d os
        have j4 : ∀ d os, (grow (redrawn W d) os).cell? ⟨w.heap.size, 3, none⟩ = some (.int .u8 lt) := fun d os => cell_regrown (FACTS.out W (Below.refl _ _)).2.2.2.2.1 d os
        have j5 : ∀ d os, (grow (redrawn W d) os).cell? ⟨w.heap.size, 4, none⟩ = some (.int .u32 lp) := fun d os => cell_regrown (FACTS.out W (Below.refl _ _)).2.2.2.2.2.1 d os
        have j6 : ∀ d os, (grow (redrawn W d) os).cell? ⟨w.heap.size, 5, none⟩ = some (.int .u8 ht) := fun d os => cell_regrown (FACTS.out W (Below.refl _ _)).2.2.2.2.2.2.1 d os
        have j7 : ∀ d os, (grow (redrawn W d) os).cell? ⟨w.heap.size, 6, none⟩ = some (.int .u32 hp) := fun d os => cell_regrown (FACTS.out W (Below.refl _ _)).2.2.2.2.2.2.2 d os
        have cGT := regrown_calls HGT.out
        rw [HX.out] at cGT
        unfold getV at cGT
        simp only at cGT
        refine wp_region_quiet_below (by kernel_rfl) (by kernel_rfl) ?_
        repeat (first | go_big_quiet_step ((first | with_reducible exact cGT _ _ | fail)) | quiet_step ((first | with_reducible exact cGT _ _ | fail)))
        refine wpQuiet_nil ?_
        intro w6 hw'
        have hbel6 : Below W.heap.size W w6 := regrown_below hw'
        clear hw'
        clear cGT j0 j1 j2 j3 j4 j5 j6 j7
        have hk2 := (FACTS.out _ hbel6).2.2.2.1
        go_wp2_with fail
        clear hk2
        have j0 : ∀ d os, (grow (redrawn w6 d) os).cell? ⟨g, 0, none⟩ = some (.int .i64 (n : Nat)) := fun d os => cell_regrown (FACTS7.out w6 hbel6).1 d os
        have j1 : ∀ d os, (grow (redrawn w6 d) os).cell? ⟨w.heap.size, 0, none⟩ = some (.int .u8 f) := fun d os => cell_regrown (FACTS7.out w6 hbel6).2.1 d os
        have j2 : ∀ d os, (grow (redrawn w6 d) os).cell? ⟨w.heap.size, 1, none⟩ = some (.int .u8 t) := fun d os => cell_regrown (FACTS7.out w6 hbel6).2.2.1 d os
        have j3 : ∀ d os, (grow (redrawn w6 d) os).cell? ⟨w.heap.size, 2, none⟩ = some (.int .u8 b) := fun d os => cell_regrown (FACTS7.out w6 hbel6).2.2.2.1 d os
        have j4 : ∀ d os, (grow (redrawn w6 d) os).cell? ⟨w.heap.size, 3, none⟩ = some (.int .u8 lt) := fun d os => cell_regrown (FACTS7.out w6 hbel6).2.2.2.2.1 d os
        have j5 : ∀ d os, (grow (redrawn w6 d) os).cell? ⟨w.heap.size, 4, none⟩ = some (.int .u32 lp) := fun d os => cell_regrown (FACTS7.out w6 hbel6).2.2.2.2.2.1 d os
        have j6 : ∀ d os, (grow (redrawn w6 d) os).cell? ⟨w.heap.size, 5, none⟩ = some (.int .u8 ht) := fun d os => cell_regrown (FACTS7.out w6 hbel6).2.2.2.2.2.2.1 d os
        have j7 : ∀ d os, (grow (redrawn w6 d) os).cell? ⟨w.heap.size, 6, none⟩ = some (.int .u32 hp) := fun d os => cell_regrown (FACTS7.out w6 hbel6).2.2.2.2.2.2.2 d os
        have cRI := regrown_calls (W := w6) (fun W' hW' => (HRI.out W' (hbel6.trans (hW'.mono hbel6.size))).mono fun _ _ ⟨q1, q2⟩ => ⟨q1, hW'.trans (q2.mono hW'.size)⟩)
        rw [HRT.out] at cRI
        have cLO := regrown_calls (W := w6) (fun W' hW' => (HLO.out W' (hbel6.trans (hW'.mono hbel6.size))).mono fun _ _ ⟨q1, q2⟩ => ⟨q1, hW'.trans (q2.mono hW'.size)⟩)
        rw [HLT.out] at cLO
        refine wp_region_quiet_below (by kernel_rfl) (by kernel_rfl) ?_
        repeat (first | go_big_quiet_step ((first | with_reducible exact cRI _ _ | with_reducible exact cLO _ _ | fail)) | quiet_step ((first | with_reducible exact cRI _ _ | with_reducible exact cLO _ _ | fail)))
        refine wpQuiet_nil ?_
        intro w9 hw'
        have hbel69 : Below w6.heap.size w6 w9 := regrown_below hw'
        clear hw'
        have hbel9 := hbel6.trans (hbel69.mono hbel6.size)
        clear cRI cLO j0 j1 j2 j3 j4 j5 j6 j7
        go_wp2_with fail
        go_ret2
        have hbf := HbW.out.trans (hbel9.mono HbW.out.size)
        rw [HFP.out]
        exact ⟨rfl, turns_of_below (HST.out.on hbf) hbf⟩
      · have HLT := Lib.hid hlo
        cases hhi : leads cs n f ⟨ht, hp⟩ (b + 1)
        · have HHT := Lib.hid hhi
          have HFP : Hid (findP n room cs ⟨f, t, b, ⟨lt, lp⟩, ⟨ht, hp⟩⟩ = (0, 1, cs)) := Lib.hid (by unfold findP; rw [HX.out, hri, hlo, hhi]; rfl)
          clear hri hlo hhi
          go_enter Tryz.func19, Tryz.ntmps19
          go_wp2_with fail
          rw [← HWW.out]
          clear hW
          have j0 : ∀ d os, (grow (redrawn W d) os).cell? ⟨g, 2, none⟩ = some (.pointer (some ⟨gi, 0, none⟩)) := fun d os => cell_regrown (FACTS.out W (Below.refl _ _)).1 d os
          have j1 : ∀ d os, (grow (redrawn W d) os).cell? ⟨w.heap.size, 0, none⟩ = some (.int .u8 f) := fun d os => cell_regrown (FACTS.out W (Below.refl _ _)).2.1 d os
          have j2 : ∀ d os, (grow (redrawn W d) os).cell? ⟨w.heap.size, 1, none⟩ = some (.int .u8 t) := fun d os => cell_regrown (FACTS.out W (Below.refl _ _)).2.2.1 d os
          have j3 : ∀ d os, (grow (redrawn W d) os).cell? ⟨w.heap.size, 2, none⟩ = some (.int .u8 b) := fun d os => cell_regrown (FACTS.out W (Below.refl _ _)).2.2.2.1 d os
          have j4 : ∀ d os, (grow (redrawn W d) os).cell? ⟨w.heap.size, 3, none⟩ = some (.int .u8 lt) := fun d os => cell_regrown (FACTS.out W (Below.refl _ _)).2.2.2.2.1 d os
          have j5 : ∀ d os, (grow (redrawn W d) os).cell? ⟨w.heap.size, 4, none⟩ = some (.int .u32 lp) := fun d os => cell_regrown (FACTS.out W (Below.refl _ _)).2.2.2.2.2.1 d os
          have j6 : ∀ d os, (grow (redrawn W d) os).cell? ⟨w.heap.size, 5, none⟩ = some (.int .u8 ht) := fun d os => cell_regrown (FACTS.out W (Below.refl _ _)).2.2.2.2.2.2.1 d os
          have j7 : ∀ d os, (grow (redrawn W d) os).cell? ⟨w.heap.size, 6, none⟩ = some (.int .u32 hp) := fun d os => cell_regrown (FACTS.out W (Below.refl _ _)).2.2.2.2.2.2.2 d os
          have cGT := regrown_calls HGT.out
          rw [HX.out] at cGT
          unfold getV at cGT
          simp only at cGT
          refine wp_region_quiet_below (by kernel_rfl) (by kernel_rfl) ?_
          repeat (first | go_big_quiet_step ((first | with_reducible exact cGT _ _ | fail)) | quiet_step ((first | with_reducible exact cGT _ _ | fail)))
          refine wpQuiet_nil ?_
          intro w6 hw'
          have hbel6 : Below W.heap.size W w6 := regrown_below hw'
          clear hw'
          clear cGT j0 j1 j2 j3 j4 j5 j6 j7
          have hk2 := (FACTS.out _ hbel6).2.2.2.1
          go_wp2_with fail
          clear hk2
          have j0 : ∀ d os, (grow (redrawn w6 d) os).cell? ⟨g, 0, none⟩ = some (.int .i64 (n : Nat)) := fun d os => cell_regrown (FACTS7.out w6 hbel6).1 d os
          have j1 : ∀ d os, (grow (redrawn w6 d) os).cell? ⟨w.heap.size, 0, none⟩ = some (.int .u8 f) := fun d os => cell_regrown (FACTS7.out w6 hbel6).2.1 d os
          have j2 : ∀ d os, (grow (redrawn w6 d) os).cell? ⟨w.heap.size, 1, none⟩ = some (.int .u8 t) := fun d os => cell_regrown (FACTS7.out w6 hbel6).2.2.1 d os
          have j3 : ∀ d os, (grow (redrawn w6 d) os).cell? ⟨w.heap.size, 2, none⟩ = some (.int .u8 b) := fun d os => cell_regrown (FACTS7.out w6 hbel6).2.2.2.1 d os
          have j4 : ∀ d os, (grow (redrawn w6 d) os).cell? ⟨w.heap.size, 3, none⟩ = some (.int .u8 lt) := fun d os => cell_regrown (FACTS7.out w6 hbel6).2.2.2.2.1 d os
          have j5 : ∀ d os, (grow (redrawn w6 d) os).cell? ⟨w.heap.size, 4, none⟩ = some (.int .u32 lp) := fun d os => cell_regrown (FACTS7.out w6 hbel6).2.2.2.2.2.1 d os
          have j6 : ∀ d os, (grow (redrawn w6 d) os).cell? ⟨w.heap.size, 5, none⟩ = some (.int .u8 ht) := fun d os => cell_regrown (FACTS7.out w6 hbel6).2.2.2.2.2.2.1 d os
          have j7 : ∀ d os, (grow (redrawn w6 d) os).cell? ⟨w.heap.size, 6, none⟩ = some (.int .u32 hp) := fun d os => cell_regrown (FACTS7.out w6 hbel6).2.2.2.2.2.2.2 d os
          have cRI := regrown_calls (W := w6) (fun W' hW' => (HRI.out W' (hbel6.trans (hW'.mono hbel6.size))).mono fun _ _ ⟨q1, q2⟩ => ⟨q1, hW'.trans (q2.mono hW'.size)⟩)
          rw [HRT.out] at cRI
          have cLO := regrown_calls (W := w6) (fun W' hW' => (HLO.out W' (hbel6.trans (hW'.mono hbel6.size))).mono fun _ _ ⟨q1, q2⟩ => ⟨q1, hW'.trans (q2.mono hW'.size)⟩)
          rw [HLT.out] at cLO
          have cHI := regrown_calls (W := w6) (fun W' hW' => (HHI.out W' (hbel6.trans (hW'.mono hbel6.size))).mono fun _ _ ⟨q1, q2⟩ => ⟨q1, hW'.trans (q2.mono hW'.size)⟩)
          rw [HHT.out] at cHI
          refine wp_region_quiet_below (by kernel_rfl) (by kernel_rfl) ?_
          repeat (first | go_big_quiet_step ((first | with_reducible exact cRI _ _ | with_reducible exact cLO _ _ | with_reducible exact cHI _ _ | fail)) | quiet_step ((first | with_reducible exact cRI _ _ | with_reducible exact cLO _ _ | with_reducible exact cHI _ _ | fail)))
          refine wpQuiet_nil ?_
          intro w9 hw'
          have hbel69 : Below w6.heap.size w6 w9 := regrown_below hw'
          clear hw'
          have hbel9 := hbel6.trans (hbel69.mono hbel6.size)
          clear cRI cLO cHI j0 j1 j2 j3 j4 j5 j6 j7
          go_wp2_with fail
          go_ret2
          have hbf := HbW.out.trans (hbel9.mono HbW.out.size)
          rw [HFP.out]
          exact ⟨rfl, turns_of_below (HST.out.on hbf) hbf⟩
        · have HHT := Lib.hid hhi
          by_cases hfull : cntC cs < room
          · have HFP : Hid (findP n room cs ⟨f, t, b, ⟨lt, lp⟩, ⟨ht, hp⟩⟩ = (cs.length + 2, 0, cs ++ [some ⟨f, t, b, ⟨lt, lp⟩, ⟨ht, hp⟩⟩])) := Lib.hid (by unfold findP; rw [HX.out, hri, hlo, hhi]; simp only [Bool.and_self, if_true]; rw [if_pos hfull])
            have HFU := Lib.hid hfull
            clear hri hlo hhi hfull
            go_enter Tryz.func19, Tryz.ntmps19
            go_wp2_with fail
            rw [← HWW.out]
            clear hW
            have j0 : ∀ d os, (grow (redrawn W d) os).cell? ⟨g, 2, none⟩ = some (.pointer (some ⟨gi, 0, none⟩)) := fun d os => cell_regrown (FACTS.out W (Below.refl _ _)).1 d os
            have j1 : ∀ d os, (grow (redrawn W d) os).cell? ⟨w.heap.size, 0, none⟩ = some (.int .u8 f) := fun d os => cell_regrown (FACTS.out W (Below.refl _ _)).2.1 d os
            have j2 : ∀ d os, (grow (redrawn W d) os).cell? ⟨w.heap.size, 1, none⟩ = some (.int .u8 t) := fun d os => cell_regrown (FACTS.out W (Below.refl _ _)).2.2.1 d os
            have j3 : ∀ d os, (grow (redrawn W d) os).cell? ⟨w.heap.size, 2, none⟩ = some (.int .u8 b) := fun d os => cell_regrown (FACTS.out W (Below.refl _ _)).2.2.2.1 d os
            have j4 : ∀ d os, (grow (redrawn W d) os).cell? ⟨w.heap.size, 3, none⟩ = some (.int .u8 lt) := fun d os => cell_regrown (FACTS.out W (Below.refl _ _)).2.2.2.2.1 d os
            have j5 : ∀ d os, (grow (redrawn W d) os).cell? ⟨w.heap.size, 4, none⟩ = some (.int .u32 lp) := fun d os => cell_regrown (FACTS.out W (Below.refl _ _)).2.2.2.2.2.1 d os
            have j6 : ∀ d os, (grow (redrawn W d) os).cell? ⟨w.heap.size, 5, none⟩ = some (.int .u8 ht) := fun d os => cell_regrown (FACTS.out W (Below.refl _ _)).2.2.2.2.2.2.1 d os
            have j7 : ∀ d os, (grow (redrawn W d) os).cell? ⟨w.heap.size, 6, none⟩ = some (.int .u32 hp) := fun d os => cell_regrown (FACTS.out W (Below.refl _ _)).2.2.2.2.2.2.2 d os
            have cGT := regrown_calls HGT.out
            rw [HX.out] at cGT
            unfold getV at cGT
            simp only at cGT
            refine wp_region_quiet_below (by kernel_rfl) (by kernel_rfl) ?_
            repeat (first | go_big_quiet_step ((first | with_reducible exact cGT _ _ | fail)) | quiet_step ((first | with_reducible exact cGT _ _ | fail)))
            refine wpQuiet_nil ?_
            intro w6 hw'
            have hbel6 : Below W.heap.size W w6 := regrown_below hw'
            clear hw'
            clear cGT j0 j1 j2 j3 j4 j5 j6 j7
            have hk2 := (FACTS.out _ hbel6).2.2.2.1
            go_wp2_with fail
            clear hk2
            have j0 : ∀ d os, (grow (redrawn w6 d) os).cell? ⟨g, 0, none⟩ = some (.int .i64 (n : Nat)) := fun d os => cell_regrown (FACTS7.out w6 hbel6).1 d os
            have j1 : ∀ d os, (grow (redrawn w6 d) os).cell? ⟨w.heap.size, 0, none⟩ = some (.int .u8 f) := fun d os => cell_regrown (FACTS7.out w6 hbel6).2.1 d os
            have j2 : ∀ d os, (grow (redrawn w6 d) os).cell? ⟨w.heap.size, 1, none⟩ = some (.int .u8 t) := fun d os => cell_regrown (FACTS7.out w6 hbel6).2.2.1 d os
            have j3 : ∀ d os, (grow (redrawn w6 d) os).cell? ⟨w.heap.size, 2, none⟩ = some (.int .u8 b) := fun d os => cell_regrown (FACTS7.out w6 hbel6).2.2.2.1 d os
            have j4 : ∀ d os, (grow (redrawn w6 d) os).cell? ⟨w.heap.size, 3, none⟩ = some (.int .u8 lt) := fun d os => cell_regrown (FACTS7.out w6 hbel6).2.2.2.2.1 d os
            have j5 : ∀ d os, (grow (redrawn w6 d) os).cell? ⟨w.heap.size, 4, none⟩ = some (.int .u32 lp) := fun d os => cell_regrown (FACTS7.out w6 hbel6).2.2.2.2.2.1 d os
            have j6 : ∀ d os, (grow (redrawn w6 d) os).cell? ⟨w.heap.size, 5, none⟩ = some (.int .u8 ht) := fun d os => cell_regrown (FACTS7.out w6 hbel6).2.2.2.2.2.2.1 d os
            have j7 : ∀ d os, (grow (redrawn w6 d) os).cell? ⟨w.heap.size, 6, none⟩ = some (.int .u32 hp) := fun d os => cell_regrown (FACTS7.out w6 hbel6).2.2.2.2.2.2.2 d os
            have cRI := regrown_calls (W := w6) (fun W' hW' => (HRI.out W' (hbel6.trans (hW'.mono hbel6.size))).mono fun _ _ ⟨q1, q2⟩ => ⟨q1, hW'.trans (q2.mono hW'.size)⟩)
            rw [HRT.out] at cRI
            have cLO := regrown_calls (W := w6) (fun W' hW' => (HLO.out W' (hbel6.trans (hW'.mono hbel6.size))).mono fun _ _ ⟨q1, q2⟩ => ⟨q1, hW'.trans (q2.mono hW'.size)⟩)
            rw [HLT.out] at cLO
            have cHI := regrown_calls (W := w6) (fun W' hW' => (HHI.out W' (hbel6.trans (hW'.mono hbel6.size))).mono fun _ _ ⟨q1, q2⟩ => ⟨q1, hW'.trans (q2.mono hW'.size)⟩)
            rw [HHT.out] at cHI
            refine wp_region_quiet_below (by kernel_rfl) (by kernel_rfl) ?_
            repeat (first | go_big_quiet_step ((first | with_reducible exact cRI _ _ | with_reducible exact cLO _ _ | with_reducible exact cHI _ _ | fail)) | quiet_step ((first | with_reducible exact cRI _ _ | with_reducible exact cLO _ _ | with_reducible exact cHI _ _ | fail)))
            refine wpQuiet_nil ?_
            intro w9 hw'
            have hbel69 : Below w6.heap.size w6 w9 := regrown_below hw'
            clear hw'
            have hbel9 := hbel6.trans (hbel69.mono hbel6.size)
            clear cRI cLO cHI j0 j1 j2 j3 j4 j5 j6 j7
            obtain ⟨K, hKe⟩ : ∃ K, K = cs.length + 2 := ⟨_, rfl⟩
            have HKE := Lib.hid hKe
            clear hKe
            go_wp2_with fail
            have hPU : Calls Tryz.prog 45 #[.pointer (some ⟨ga, 0, none⟩), .agg #[.int .u8 f, .int .u8 t, .int .u8 b, .int .u8 lt, .int .u32 lp, .int .u8 ht, .int .u32 hp]] w9.drew fun e w' => e = .returned (.tuple #[.int .u32 (K : Nat), .bool true]) ∧ Turns (fun W X => ArenaAt W X ga (cs ++ [some ⟨f, t, b, ⟨lt, lp⟩, ⟨ht, hp⟩⟩]) [] room) Fa w9.drew w' := by
              rw [HKE.out]
              exact arenaPut_new Fa ga cs room ⟨f, t, b, ⟨lt, lp⟩, ⟨ht, hp⟩⟩ _ (HA.out.on hbel9.drew) HFU.out HOK.out.room20 (by have := HOK.out.len; have := HOK.out.room20; omega)
            have HPU := Lib.hid hPU
            clear hPU
            have hk9 := FACTS9.out _ (chg_of_below hbel9)
            go_region_held3 (fun w' => w'.cell? ⟨g, 1, none⟩ = some (.pointer (some ⟨ga, 0, none⟩)) ∧ w'.cell? ⟨w.heap.size, 0, none⟩ = some (.int .u8 f) ∧ w'.cell? ⟨w.heap.size, 1, none⟩ = some (.int .u8 t) ∧ w'.cell? ⟨w.heap.size, 2, none⟩ = some (.int .u8 b) ∧ w'.cell? ⟨w.heap.size, 3, none⟩ = some (.int .u8 lt) ∧ w'.cell? ⟨w.heap.size, 4, none⟩ = some (.int .u32 lp) ∧ w'.cell? ⟨w.heap.size, 5, none⟩ = some (.int .u8 ht) ∧ w'.cell? ⟨w.heap.size, 6, none⟩ = some (.int .u32 hp)) ((refine FACTS9.out _ ?_; with_reducible (first | exact chg_of_below hbel9 | exact (chg_of_below hbel9).drew | exact hch10 | fail))) (first | (go_at_call 45; refine HPU.out.mono ?_; rintro e w10 ⟨rfl, hT10⟩; have HT10 := Lib.hid hT10; clear hT10; have hch10 : Chg (Fa ++ Fi) W w10 := (chg_of_below hbel9.drew).trans HT10.out.2 (fun x hx => .inl (by simp [hx]))) | fail)
            go_wp2_with fail
            have hchA : Chg Fa W w10 := (chg_of_below hbel9.drew).trans HT10.out.2 (fun x hx => .inl hx)
            have hIP : Calls Tryz.prog 46 #[.pointer (some ⟨gi, 0, none⟩), .agg #[.int .u8 f, .int .u8 t, .int .u8 b, .int .u8 lt, .int .u32 lp, .int .u8 ht, .int .u32 hp], .int .u32 (K : Nat)] w10.drew fun e w' => e = .returned (.tuple #[.int .u32 0, .bool false]) ∧ Turns (fun W X => IdxAt W X gi (upd m ⟨f, t, b, ⟨lt, lp⟩, ⟨ht, hp⟩⟩ K) (cntC cs + 1)) Fi w10.drew w' := idxPut_new Fi gi (cntC cs) m ⟨f, t, b, ⟨lt, lp⟩, ⟨ht, hp⟩⟩ K _ (HI.out.chg hchA.drew HDIS.out) (by rw [HID.out]; exact HX.out) HR.out (by have := HKE.out; have := HOK.out.len; have := HOK.out.room20; omega) (by have := HFU.out; have := HOK.out.room20; omega)
            have HIP := Lib.hid hIP
            have hk12 := FACTS12.out _ hch10
            clear hIP hchA hk9
            go_region_held3 (fun w' => w'.cell? ⟨g, 2, none⟩ = some (.pointer (some ⟨gi, 0, none⟩)) ∧ w'.cell? ⟨w.heap.size, 0, none⟩ = some (.int .u8 f) ∧ w'.cell? ⟨w.heap.size, 1, none⟩ = some (.int .u8 t) ∧ w'.cell? ⟨w.heap.size, 2, none⟩ = some (.int .u8 b) ∧ w'.cell? ⟨w.heap.size, 3, none⟩ = some (.int .u8 lt) ∧ w'.cell? ⟨w.heap.size, 4, none⟩ = some (.int .u32 lp) ∧ w'.cell? ⟨w.heap.size, 5, none⟩ = some (.int .u8 ht) ∧ w'.cell? ⟨w.heap.size, 6, none⟩ = some (.int .u32 hp)) ((refine FACTS12.out _ ?_; with_reducible (first | exact hch10 | exact hch10.drew | exact hch11 | fail))) (first | (go_at_call 46; refine HIP.out.mono ?_; rintro e w11 ⟨rfl, hT11⟩; have HT11 := Lib.hid hT11; clear hT11; have hch11 : Chg (Fa ++ Fi) W w11 := hch10.drew.trans HT11.out.2 (fun x hx => .inl (by simp [hx]))) | fail)
            go_wp2_with fail
            go_ret2
            rw [HFP.out]
            refine ⟨by rw [HKE.out]; rfl, ?_⟩
            have hT11 := HT11.out
            rw [HKE.out] at hT11
            have hend := store_put_end (HbW.out.trans (hbel9.drew.mono HbW.out.size)) (fun k hk => HST.out.lt k (by rw [HFE.out]; exact hk)) (HBW.out.on' hbel9.drew) (by rw [← HFE.out]; exact HND.out) HOK.out HR.out HFU.out HM4.out (by rw [HID.out]; exact HX.out) HT10.out hT11
            rw [← HFE.out] at hend
            exact hend
          · have HFP : Hid (findP n room cs ⟨f, t, b, ⟨lt, lp⟩, ⟨ht, hp⟩⟩ = (0, 6, cs)) := Lib.hid (by unfold findP; rw [HX.out, hri, hlo, hhi]; simp only [Bool.and_self, if_true]; rw [if_neg hfull])
            have HFU := Lib.hid hfull
            clear hri hlo hhi hfull
            go_enter Tryz.func19, Tryz.ntmps19
            go_wp2_with fail
            rw [← HWW.out]
            clear hW
            have j0 : ∀ d os, (grow (redrawn W d) os).cell? ⟨g, 2, none⟩ = some (.pointer (some ⟨gi, 0, none⟩)) := fun d os => cell_regrown (FACTS.out W (Below.refl _ _)).1 d os
            have j1 : ∀ d os, (grow (redrawn W d) os).cell? ⟨w.heap.size, 0, none⟩ = some (.int .u8 f) := fun d os => cell_regrown (FACTS.out W (Below.refl _ _)).2.1 d os
            have j2 : ∀ d os, (grow (redrawn W d) os).cell? ⟨w.heap.size, 1, none⟩ = some (.int .u8 t) := fun d os => cell_regrown (FACTS.out W (Below.refl _ _)).2.2.1 d os
            have j3 : ∀ d os, (grow (redrawn W d) os).cell? ⟨w.heap.size, 2, none⟩ = some (.int .u8 b) := fun d os => cell_regrown (FACTS.out W (Below.refl _ _)).2.2.2.1 d os
            have j4 : ∀ d os, (grow (redrawn W d) os).cell? ⟨w.heap.size, 3, none⟩ = some (.int .u8 lt) := fun d os => cell_regrown (FACTS.out W (Below.refl _ _)).2.2.2.2.1 d os
            have j5 : ∀ d os, (grow (redrawn W d) os).cell? ⟨w.heap.size, 4, none⟩ = some (.int .u32 lp) := fun d os => cell_regrown (FACTS.out W (Below.refl _ _)).2.2.2.2.2.1 d os
            have j6 : ∀ d os, (grow (redrawn W d) os).cell? ⟨w.heap.size, 5, none⟩ = some (.int .u8 ht) := fun d os => cell_regrown (FACTS.out W (Below.refl _ _)).2.2.2.2.2.2.1 d os
            have j7 : ∀ d os, (grow (redrawn W d) os).cell? ⟨w.heap.size, 6, none⟩ = some (.int .u32 hp) := fun d os => cell_regrown (FACTS.out W (Below.refl _ _)).2.2.2.2.2.2.2 d os
            have cGT := regrown_calls HGT.out
            rw [HX.out] at cGT
            unfold getV at cGT
            simp only at cGT
            refine wp_region_quiet_below (by kernel_rfl) (by kernel_rfl) ?_
            repeat (first | go_big_quiet_step ((first | with_reducible exact cGT _ _ | fail)) | quiet_step ((first | with_reducible exact cGT _ _ | fail)))
            refine wpQuiet_nil ?_
            intro w6 hw'
            have hbel6 : Below W.heap.size W w6 := regrown_below hw'
            clear hw'
            clear cGT j0 j1 j2 j3 j4 j5 j6 j7
            have hk2 := (FACTS.out _ hbel6).2.2.2.1
            go_wp2_with fail
            clear hk2
            have j0 : ∀ d os, (grow (redrawn w6 d) os).cell? ⟨g, 0, none⟩ = some (.int .i64 (n : Nat)) := fun d os => cell_regrown (FACTS7.out w6 hbel6).1 d os
            have j1 : ∀ d os, (grow (redrawn w6 d) os).cell? ⟨w.heap.size, 0, none⟩ = some (.int .u8 f) := fun d os => cell_regrown (FACTS7.out w6 hbel6).2.1 d os
            have j2 : ∀ d os, (grow (redrawn w6 d) os).cell? ⟨w.heap.size, 1, none⟩ = some (.int .u8 t) := fun d os => cell_regrown (FACTS7.out w6 hbel6).2.2.1 d os
            have j3 : ∀ d os, (grow (redrawn w6 d) os).cell? ⟨w.heap.size, 2, none⟩ = some (.int .u8 b) := fun d os => cell_regrown (FACTS7.out w6 hbel6).2.2.2.1 d os
            have j4 : ∀ d os, (grow (redrawn w6 d) os).cell? ⟨w.heap.size, 3, none⟩ = some (.int .u8 lt) := fun d os => cell_regrown (FACTS7.out w6 hbel6).2.2.2.2.1 d os
            have j5 : ∀ d os, (grow (redrawn w6 d) os).cell? ⟨w.heap.size, 4, none⟩ = some (.int .u32 lp) := fun d os => cell_regrown (FACTS7.out w6 hbel6).2.2.2.2.2.1 d os
            have j6 : ∀ d os, (grow (redrawn w6 d) os).cell? ⟨w.heap.size, 5, none⟩ = some (.int .u8 ht) := fun d os => cell_regrown (FACTS7.out w6 hbel6).2.2.2.2.2.2.1 d os
            have j7 : ∀ d os, (grow (redrawn w6 d) os).cell? ⟨w.heap.size, 6, none⟩ = some (.int .u32 hp) := fun d os => cell_regrown (FACTS7.out w6 hbel6).2.2.2.2.2.2.2 d os
            have cRI := regrown_calls (W := w6) (fun W' hW' => (HRI.out W' (hbel6.trans (hW'.mono hbel6.size))).mono fun _ _ ⟨q1, q2⟩ => ⟨q1, hW'.trans (q2.mono hW'.size)⟩)
            rw [HRT.out] at cRI
            have cLO := regrown_calls (W := w6) (fun W' hW' => (HLO.out W' (hbel6.trans (hW'.mono hbel6.size))).mono fun _ _ ⟨q1, q2⟩ => ⟨q1, hW'.trans (q2.mono hW'.size)⟩)
            rw [HLT.out] at cLO
            have cHI := regrown_calls (W := w6) (fun W' hW' => (HHI.out W' (hbel6.trans (hW'.mono hbel6.size))).mono fun _ _ ⟨q1, q2⟩ => ⟨q1, hW'.trans (q2.mono hW'.size)⟩)
            rw [HHT.out] at cHI
            refine wp_region_quiet_below (by kernel_rfl) (by kernel_rfl) ?_
            repeat (first | go_big_quiet_step ((first | with_reducible exact cRI _ _ | with_reducible exact cLO _ _ | with_reducible exact cHI _ _ | fail)) | quiet_step ((first | with_reducible exact cRI _ _ | with_reducible exact cLO _ _ | with_reducible exact cHI _ _ | fail)))
            refine wpQuiet_nil ?_
            intro w9 hw'
            have hbel69 : Below w6.heap.size w6 w9 := regrown_below hw'
            clear hw'
            have hbel9 := hbel6.trans (hbel69.mono hbel6.size)
            clear cRI cLO cHI j0 j1 j2 j3 j4 j5 j6 j7
            go_wp2_with fail
            have cPU := regrown_calls (W := w9) (fun W' hW' => (arenaPut_full Fa ga cs [] room ⟨f, t, b, ⟨lt, lp⟩, ⟨ht, hp⟩⟩ W' (HA.out.on (hbel9.trans (hW'.mono hbel9.size))) (by have := HFU.out; omega)).mono fun _ _ ⟨q1, q2⟩ => ⟨q1, hW'.trans (q2.mono hW'.size)⟩)
            simp only [Rec.cells] at cPU
            have j0 : ∀ d os, (grow (redrawn w9 d) os).cell? ⟨g, 1, none⟩ = some (.pointer (some ⟨ga, 0, none⟩)) := fun d os => cell_regrown (FACTS9.out w9 (chg_of_below hbel9)).1 d os
            have j1 : ∀ d os, (grow (redrawn w9 d) os).cell? ⟨w.heap.size, 0, none⟩ = some (.int .u8 f) := fun d os => cell_regrown (FACTS9.out w9 (chg_of_below hbel9)).2.1 d os
            have j2 : ∀ d os, (grow (redrawn w9 d) os).cell? ⟨w.heap.size, 1, none⟩ = some (.int .u8 t) := fun d os => cell_regrown (FACTS9.out w9 (chg_of_below hbel9)).2.2.1 d os
            have j3 : ∀ d os, (grow (redrawn w9 d) os).cell? ⟨w.heap.size, 2, none⟩ = some (.int .u8 b) := fun d os => cell_regrown (FACTS9.out w9 (chg_of_below hbel9)).2.2.2.1 d os
            have j4 : ∀ d os, (grow (redrawn w9 d) os).cell? ⟨w.heap.size, 3, none⟩ = some (.int .u8 lt) := fun d os => cell_regrown (FACTS9.out w9 (chg_of_below hbel9)).2.2.2.2.1 d os
            have j5 : ∀ d os, (grow (redrawn w9 d) os).cell? ⟨w.heap.size, 4, none⟩ = some (.int .u32 lp) := fun d os => cell_regrown (FACTS9.out w9 (chg_of_below hbel9)).2.2.2.2.2.1 d os
            have j6 : ∀ d os, (grow (redrawn w9 d) os).cell? ⟨w.heap.size, 5, none⟩ = some (.int .u8 ht) := fun d os => cell_regrown (FACTS9.out w9 (chg_of_below hbel9)).2.2.2.2.2.2.1 d os
            have j7 : ∀ d os, (grow (redrawn w9 d) os).cell? ⟨w.heap.size, 6, none⟩ = some (.int .u32 hp) := fun d os => cell_regrown (FACTS9.out w9 (chg_of_below hbel9)).2.2.2.2.2.2.2 d os
            refine wp_region_quiet_below (by kernel_rfl) (by kernel_rfl) ?_
            repeat (first | go_big_quiet_step ((first | with_reducible exact cPU _ _ | fail)) | quiet_step ((first | with_reducible exact cPU _ _ | fail)))
            refine wpQuiet_nil ?_
            intro w10 hw'
            have hbel10 : Below w9.heap.size w9 w10 := regrown_below hw'
            clear hw'
            clear cPU j0 j1 j2 j3 j4 j5 j6 j7
            go_wp2_with fail
            go_ret2
            have hbf := HbW.out.trans ((hbel9.trans (hbel10.mono hbel9.size)).mono HbW.out.size)
            rw [HFP.out]
            exact ⟨rfl, turns_of_below (HST.out.on hbf) hbf⟩
end Go.Proofs.YtpjciaomhfeeeaaGreat
end
