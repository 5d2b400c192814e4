/- What the document's store holds behind a new record. -/
import Derived.Test.YtfcklfpgjadfmaaRefH
namespace Go.Proofs.Ytfcklfpgjadfmaa
open Go.RowKit Go.Sort
set_option linter.unusedSimpArgs false
set_option linter.unusedVariables false

def findR (n room : Nat) (rs : List Rec) (r : Rec) : Nat × Nat × List Rec :=
  match idOf (rs.map some) r with
  | some id => (id, 0, rs)
  | none => if right r n && leads (rs.map some) n r.form r.lo (r.bot + 1) && leads (rs.map some) n r.form r.hi (r.bot + 1) then (if rs.length < room then (rs.length + 2, 0, rs ++ [r]) else (0, 6, rs)) else (0, 1, rs)
theorem cntC_map (rs : List Rec) : cntC (rs.map some) = rs.length := by
  unfold cntC
  rw [List.countP_eq_length.2, List.length_map]
  intro x hx
  obtain ⟨y, _, rfl⟩ := List.mem_map.1 hx
  rfl
theorem findR_eq (n room : Nat) (rs : List Rec) (r : Rec) : findP n room (rs.map some) r = ((findR n room rs r).1, (findR n room rs r).2.1, (findR n room rs r).2.2.map some) := by
  unfold findP findR
  rw [cntC_map]
  cases idOf (rs.map some) r with
  | some id => rfl
  | none =>
    simp only
    split
    · split
      · simp
      · rfl
    · rfl
theorem ref_end {w W w1 : World} {F : List Nat} {g len c n room g1 cap : Nat} {A : Option Addr} {rs : List Rec} {r : Rec} {O : Obj} (hch : Chg [g] w W) (hF : F = g :: blk (.slice A len c)) (hlt : ∀ k ∈ F, k < w.heap.size) (hnd : F.Nodup) (hl : rs.length = len)
    (hBW : Blk W g 89 #[.slice A len c, .slice none 0 0, .int .u32 ((rs.length : Int) + 1), .int .i64 (n : Nat), .int .i64 (room : Nat)])
    (hgrow : ((W.alloc O).drew).grownBy w1 (Value.slice A len c).ownBlock) (hown : w1.ownsRow 0 98 8 (.slice (some ⟨g1, 0, none⟩) (len + 1) cap) (len + 1) ((nodesOf rs).flatMap nodeEnc ++ nodeEnc (((rs.length + 2 : Nat) : Int), r)))
    (hat : (Value.slice A len c).ownBlock = some g1 ∨ g1 = ((W.alloc O).drew).heap.size) :
    Turns (fun W X => RefAt W X g n room (rs ++ [r])) F w (w1.setCell ⟨g, 0, none⟩ (.slice (some ⟨g1, 0, none⟩) (len + 1) cap)) := by
  subst hF
  have hgW : g < W.heap.size := hBW.lt
  have hsz := hch.size
  rw [List.nodup_cons] at hnd
  obtain ⟨hn1, _⟩ := hnd
  have hrow : ∀ k, (Value.slice A len c).ownBlock = some k → k ∈ blk (.slice A len c) := fun k hk => mem_blk.2 hk
  have hgne : some g ≠ (Value.slice A len c).ownBlock := fun e => hn1 (hrow g e.symm)
  have hg1 : g1 ≠ g := by
    rintro rfl
    rcases hat with h | h
    · exact hgne h.symm
    · simp at h; omega
  have hchW1 : Chg (blk (.slice A len c)) W w1 := (((Chg.refl (blk (.slice A len c)) W).alloc O).drew).trans (chg_of_grown hgrow hrow) (fun x hx => .inl hx)
  have hset : Chg [g] w1 (w1.setCell ⟨g, 0, none⟩ (.slice (some ⟨g1, 0, none⟩) (len + 1) cap)) := (Chg.refl _ _).setCell (.inl (by simp)) _
  have hB1 : Blk w1 g _ _ := hBW.chg hchW1 (fun h => hn1 h)
  refine ⟨⟨g :: blk (.slice (some ⟨g1, 0, none⟩) (len + 1) cap), ⟨_, len + 1, cap, ?_, ?_, by simp [hl], rfl, ?_⟩, ?_⟩, ?_⟩
  · have := hB1.set_ 0 (.slice (some ⟨g1, 0, none⟩) (len + 1) cap)
    have e : (((rs ++ [r]).length : Nat) : Int) = (rs.length : Int) + 1 := by simp
    rw [e]
    exact this
  · have h1 : OwnS 8 nodeEnc 98 w1 0 (.slice (some ⟨g1, 0, none⟩) (len + 1) cap) (nodesOf (rs ++ [r])) := by
      unfold OwnS
      rw [nodesOf_snoc, List.flatMap_append, List.length_append, nodesOf_len, hl]
      rw [hl] at hown
      simpa using hown
    exact h1.chg hset (fun k hk hm => by simp [mem_blk, Value.ownBlock] at hk hm; omega)
  · rw [List.nodup_cons]
    refine ⟨fun h => ?_, ?_⟩
    · simp [mem_blk, Value.ownBlock] at h; omega
    · simp [blk, Value.ownBlock]
  · intro k hk
    rcases List.mem_cons.1 hk with rfl | hk
    · exact .inl (by simp)
    · simp [mem_blk, Value.ownBlock] at hk
      subst hk
      rcases hat with h | h
      · exact .inl (by simp [hrow g1 h])
      · right; simp at h; omega
  · exact ((hch.mono (G := g :: blk (.slice A len c)) (fun x hx => .inl (by simp at hx; simp [hx]))).trans hchW1 (fun x hx => .inl (by simp [hx]))).trans hset (fun x hx => .inl (by simp at hx; simp [hx]))
theorem info_node : (Try.prog.info? 98).map (fun i => (i.zero, i.size, i.bytes)) = some (some (.agg (nodeEnc (0, Rec.nil)).toArray), 8, 24) := by kernel_rfl
end Go.Proofs.Ytfcklfpgjadfmaa
