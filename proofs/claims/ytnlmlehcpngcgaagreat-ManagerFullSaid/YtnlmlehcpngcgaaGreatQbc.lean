/- Contract: slices.Sort of no numbers. -/
import Derived.Test.YtnlmlehcpngcgaaGreatQaa
import Derived.Test.YtnlmlehcpngcgaaGreatShelf
namespace Go.Proofs.YtnlmlehcpngcgaaGreat
set_option linter.unusedSimpArgs false
set_option linter.unusedVariables false
section
open Go Go.RowKit
set_option maxRecDepth 100000 in
set_option maxHeartbeats 4000000 in
theorem insert_nil (w:World):Calls Tryz.prog 140 #[.slice none 0 0,.int .i64 0,.int .i64 0] w fun e w'=>e = .returned (.tuple #[])∧w=w':=by
 go_enter Tryz.func140,Tryz.ntmps140
 go_wp2_with fail
 go_loopw [6] (fun i wr=>i = .int .i64 1∧wr=w) (fun _ _=>0)
 case atStart=>exact ⟨rfl,rfl⟩
 case round=>
  obtain ⟨rfl,rfl⟩:=hrel
  go_wp2_with fail
  go_end0
  exact ⟨rfl,rfl⟩
set_option maxRecDepth 100000 in
set_option maxHeartbeats 4000000 in
theorem pdq_nil (w:World):Calls Tryz.prog 133 #[.slice none 0 0,.int .i64 0,.int .i64 0,.int .i64 0] w fun e w'=>e = .returned (.tuple #[])∧w=w':=by
 have HI:=Lib.hid (fun W=>insert_nil W)
 go_enter Tryz.func133,Tryz.ntmps133
 go_wp2_with fail
 go_loopw [1,2] (fun a b wr=>a = .int .i64 0∧b = .int .i64 0∧wr=w) (fun _ _ _=>0)
 case atStart=>exact ⟨rfl,rfl,rfl⟩
 case round=>
  obtain ⟨rfl,rfl,hwr⟩:=hrel
  subst hwr
  go_wp2_with fail
  refine (HI.out _).mono ?_
  rintro e w1 ⟨rfl,rfl⟩
  go_wp2_with fail
  refine bodyPost_ret (results_none rfl _ _ _) rfl ⟨rfl,rfl⟩
set_option maxRecDepth 100000 in
set_option maxHeartbeats 4000000 in
theorem sort_nil (w:World):Calls Tryz.prog 122 #[.slice none 0 0] w fun e w'=>e = .returned (.tuple #[])∧w=w':=by
 have HP:=Lib.hid (fun W=>pdq_nil W)
 have HL:=Lib.hid (fun W=>Tryz.bits_Len 0 W (by omega) (by omega))
 go_enter Tryz.func122,Tryz.ntmps122
 go_wp2_with fail
 refine (HL.out _).mono ?_
 rintro e w1 ⟨rfl,rfl⟩
 go_wp2_with fail
 refine (HP.out _).mono ?_
 rintro e w1 ⟨rfl,rfl⟩
 go_wp2_with fail
 go_end0
 exact ⟨rfl,rfl⟩
end
end Go.Proofs.YtnlmlehcpngcgaaGreat
