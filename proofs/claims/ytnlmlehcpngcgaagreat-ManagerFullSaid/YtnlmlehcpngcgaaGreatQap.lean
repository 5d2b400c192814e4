/- What the contracts of View have in common. -/
import Derived.Test.YtnlmlehcpngcgaaGreatQan
namespace Go.Proofs.YtnlmlehcpngcgaaGreat
set_option linter.unusedSimpArgs false
set_option linter.unusedVariables false
section
open Go.RowKit Go.Sort
def ViewOut (k:Nat) (w:World) (F:List Nat) (g n room:Nat) (cs:List (Option Rec)) (P:List (Option Rec)→Edg→Edg→Prop) (e:Ending) (w':World):Prop:=
 (∃ (lo hi:Edg) (cs':List (Option Rec)) (free':List Int),e = .returned (.tuple #[.agg lo.cells.toArray,.agg hi.cells.toArray,.int .u8 0])∧P cs' lo hi∧Grow k cs cs' free'∧Turns (fun W X=>StoreAt W X g n room cs' free') F w w')∨
 (∃ (cs':List (Option Rec)) (free':List Int),e = .returned (.tuple #[.agg Edg.nil.cells.toArray,.agg Edg.nil.cells.toArray,.int .u8 6])∧room≤cntC cs'∧Grow k cs cs' free'∧Turns (fun W X=>StoreAt W X g n room cs' free') F w w')
theorem post_gen {P:Program} {F:Func} {post:Ending→World→Prop} {x:Exit} {a:Act} {w:World} (R:World→Prop) (h:R w) (k:∀W,R W→bodyPost P F post x a W):bodyPost P F post x a w:=k w h
def Boxes (h:Nat) (w5:World) (a b c d:Value) (X:World):Prop:=Chg [h+1,h+2] w5 X∧Blk X (h+1) 48 #[a,b]∧Blk X (h+2) 48 #[c,d]
section
variable {h:Nat} {w5 X:World} {a b c d a0 b0 c0 d0:Value}
theorem Boxes.refl (k1:Blk w5 (h+1) 48 #[a,b]) (k2:Blk w5 (h+2) 48 #[c,d]):Boxes h w5 a b c d w5:=⟨Chg.refl _ _,k1,k2⟩
theorem Boxes.lo (k:Boxes h w5 a0 b0 c d X) (a b:Value):Boxes h w5 a b c d ((X.setCell ⟨h+1,0,none⟩ a).setCell ⟨h+1,1,none⟩ b):=
 ⟨(k.1.setCell (.inl (by simp)) _).setCell (.inl (by simp)) _,(k.2.1.set_ 0 a).set_ 1 b,(k.2.2.far (p:=⟨h+1,0,none⟩) (by simp) _).far (p:=⟨h+1,1,none⟩) (by simp) _⟩
theorem Boxes.hi (k:Boxes h w5 a b c0 d0 X) (c d:Value):Boxes h w5 a b c d ((X.setCell ⟨h+1+1,0,none⟩ c).setCell ⟨h+1+1,1,none⟩ d):=
 ⟨(k.1.setCell (.inl (by simp)) _).setCell (.inl (by simp)) _,(k.2.1.far (p:=⟨h+1+1,0,none⟩) (by simp) _).far (p:=⟨h+1+1,1,none⟩) (by simp) _,(k.2.2.set_ 0 c).set_ 1 d⟩
theorem Boxes.drew (k:Boxes h w5 a b c d X):Boxes h w5 a b c d X.drew:=⟨k.1.drew,k.2.1,k.2.2⟩
end
end
end Go.Proofs.YtnlmlehcpngcgaaGreat
