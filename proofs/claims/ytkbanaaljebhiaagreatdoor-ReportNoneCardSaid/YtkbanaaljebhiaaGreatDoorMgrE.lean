/- Contracts: what a manager without handles and nodes tells. -/
import Derived.Test.YtkbanaaljebhiaaGreatDoorMgr
namespace Go.Proofs.YtkbanaaljebhiaaGreatDoor
open Go.RowKit
set_option linter.unusedSimpArgs false
set_option linter.unusedVariables false

theorem mgrVars_any (m n room : Nat) (w : World) (h : MgrAt w m n room) : Calls Tryz.prog 44 #[.pointer (some ⟨m, 0, none⟩)] w fun e w' => e = .returned (.int .i64 n) ∧ w = w' := by
  obtain ⟨gs, Fs, go, Fo, ls, h1, h2, h3, h4, h5, h6⟩ := h
  have HS := Lib.hid h5
  clear h5 h6 h3 h2
  go_enter Tryz.func44, Tryz.ntmps44
  go_wp2_with fail
  refine (storeVars_any _ _ _ _ _ _ _ HS.out).mono ?_
  rintro e w1 ⟨rfl, rfl⟩
  go_wp2_with fail
  go_ret
  exact ⟨rfl, rfl⟩
theorem mgrNodes_any (m n room : Nat) (w : World) (h : MgrAt w m n room) : Calls Tryz.prog 47 #[.pointer (some ⟨m, 0, none⟩)] w fun e w' => e = .returned (.int .i64 0) ∧ w = w' := by
  obtain ⟨gs, Fs, go, Fo, ls, h1, h2, h3, h4, h5, h6⟩ := h
  have HS := Lib.hid h5
  clear h5 h6 h3 h2
  go_enter Tryz.func47, Tryz.ntmps47
  go_wp2_with fail
  refine (storeLen_any _ _ _ _ _ _ _ HS.out).mono ?_
  rintro e w1 ⟨rfl, rfl⟩
  go_wp2_with fail
  go_ret
  exact ⟨rfl, rfl⟩
theorem mgrOrder_any (m n room : Nat) (hn : n ≤ 16) (w : World) (h : MgrAt w m n room) : Calls Tryz.prog 25 #[.pointer (some ⟨m, 0, none⟩)] w fun e w' => ∃ v, e = .returned v ∧ OwnI w' w.heap.size v (iota n) ∧ Below w.heap.size w w' := by
  obtain ⟨gs, Fs, go, Fo, ls, h1, h2, h3, h4, h5, h6⟩ := h
  have HO := Lib.hid h6
  clear h5 h6 h3 h1
  go_enter Tryz.func25, Tryz.ntmps25
  go_wp2_with fail
  refine (orderPerm_any _ _ _ _ _ (by rw [iota_length]; omega) HO.out).mono ?_
  rintro e w1 ⟨v, rfl, hown, hb⟩
  go_wp2_with fail
  go_ret
  exact ⟨_, rfl, hown, hb⟩
theorem size_live : (Tryz.prog.info? 78).map (·.size) = some (List.replicate 257 (Value.bool false)).length := by kernel_rfl
theorem bool_one : (Tryz.prog.info? 4).map (·.size) = some 1 := by kernel_rfl
theorem index_live (Z : Array Value) (k : Nat) (hk : k < 257) (hz : Z[k]? = some (.bool false)) (w : World) : (Instr.index 78 (.agg Z) (.int .i64 (k : Int))).run Tryz.prog w = .ok (.bool false) w := by
  obtain ⟨i, hi, hs⟩ := Option.map_eq_some_iff.1 bool_one
  have hk2 : (k : Int) < 257 := by omega
  simp [Instr.index, asIntOf, run_underlying Tryz.underlying78, run_underlying Tryz.underlying4, part, isAgg, sizeOf, typeInfo, hi, hs, hk2, hz]
  intro h
  omega
set_option maxRecDepth 100000 in
set_option maxHeartbeats 4000000 in
theorem mgrLive_any (m n room : Nat) (w : World) (h : MgrAt w m n room) : Calls Tryz.prog 46 #[.pointer (some ⟨m, 0, none⟩)] w fun e w' => e = .returned (.slice none 0 0) ∧ w = w' := by
  obtain ⟨gs, Fs, go, Fo, ls, h1, h2, h3, h4, h5, h6⟩ := h
  obtain ⟨Z, hZ⟩ : ∃ Z, Z = (List.replicate 257 (Value.bool false)).toArray := ⟨_, rfl⟩
  have hzs : Z.size = 257 := by rw [hZ]; simp
  have hza : ∀ k, k < 257 → Z[k]? = some (.bool false) := fun k hk => by rw [hZ, List.getElem?_toArray, List.getElem?_replicate, if_pos hk]
  have HZA := Lib.hid hza
  have H3 := Lib.hid h3
  have HZ := Lib.hid hZ
  clear hza hZ h1 h2 h3 h5 h6
  go_enter Tryz.func46, Tryz.ntmps46
  go_wp2_with fail
  refine wp_load_mid 78 _ rfl m 5 rfl (List.replicate 257 (.bool false)) _ H3.out Tryz.underlying78 rfl size_live ?_
  rw [← HZ.out]
  go_wp2_with fail
  go_loopw [3, 12] (fun o i wr => ∃ k : Nat, k ≤ 257 ∧ i = .int .i64 (k : Int) ∧ o = .slice none 0 0 ∧ wr = w) (fun _ i _ => 257 - (intOf i).toNat)
  case atStart => exact ⟨0, by omega, rfl, rfl, rfl⟩
  case round =>
    obtain ⟨k, hk, rfl, rfl, hwr⟩ := hrel
    subst hwr
    rcases Nat.lt_or_ge k 257 with hlt | hge
    · have hz := fun W => index_live Z k hlt (HZA.out k hlt) W
      go_wp2_with fail
      go_roundw
      case rel => exact ⟨k + 1, by omega, by go_num, rfl, by first | rfl | trivial⟩
      case measure => simp [intOf]; omega
    · obtain rfl : k = 257 := by omega
      go_wp2_with fail
      go_ret
      exact ⟨rfl, rfl⟩
end Go.Proofs.YtkbanaaljebhiaaGreatDoor
