/- Contracts: node.mix, Hash, IsForm, may, Chained. -/
import Derived.Test.YtnlmlehcpngcgaaGreatQaa
import Derived.Test.YtnlmlehcpngcgaaGreatQab
import Derived.Deep.RegionHeld3
import Derived.Deep.LoopGhost
import Derived.Deep.RegionWith
namespace Go.Proofs.YtnlmlehcpngcgaaGreat
set_option linter.unusedSimpArgs false
set_option linter.unusedVariables false
section
open Go.RowKit
def isFormB (f:Int):Bool:=decide (1≤f∧f≤5)
def mayB (n:Int):Bool:=decide (0≤n∧n≤16)
def chainedB (f:Int):Bool:=decide (f=3∨f=4)
theorem isForm_any (f:Int) (w:World):Calls Tryz.prog 39 #[.int .u8 f] w fun e w'=>e = .returned (.bool (isFormB f))∧w=w':=by
 by_cases h1:1≤f
 ·by_cases h2:f≤5
  ·have H:Hid (isFormB f=true):=Lib.hid (by simp [isFormB,h1,h2])
   go_enter Tryz.func39,Tryz.ntmps39
   go_wp2_with fail
   go_ret
   exact ⟨by rw [H.out];rfl,rfl⟩
  ·have H:Hid (isFormB f=false):=Lib.hid (by simp [isFormB,h2])
   go_enter Tryz.func39,Tryz.ntmps39
   go_wp2_with fail
   go_ret
   exact ⟨by rw [H.out];rfl,rfl⟩
 ·have H:Hid (isFormB f=false):=Lib.hid (by simp [isFormB,h1])
  go_enter Tryz.func39,Tryz.ntmps39
  go_wp2_with fail
  go_ret
  exact ⟨by rw [H.out];rfl,rfl⟩
theorem nodeMay_any (n:Int) (w:World):Calls Tryz.prog 66 #[.int .i64 n] w fun e w'=>e = .returned (.bool (mayB n))∧w=w':=by
 by_cases h1:0≤n
 ·by_cases h2:n≤16
  ·have H:Hid (mayB n=true):=Lib.hid (by simp [mayB,h1,h2])
   go_enter Tryz.func66,Tryz.ntmps66
   go_wp2_with fail
   go_ret
   exact ⟨by rw [H.out];rfl,rfl⟩
  ·have H:Hid (mayB n=false):=Lib.hid (by simp [mayB,h2])
   go_enter Tryz.func66,Tryz.ntmps66
   go_wp2_with fail
   go_ret
   exact ⟨by rw [H.out];rfl,rfl⟩
 ·have H:Hid (mayB n=false):=Lib.hid (by simp [mayB,h1])
  go_enter Tryz.func66,Tryz.ntmps66
  go_wp2_with fail
  go_ret
  exact ⟨by rw [H.out];rfl,rfl⟩
theorem chained_any (f:Int) (w:World):Calls Tryz.prog 138 #[.int .u8 f] w fun e w'=>e = .returned (.bool (chainedB f))∧w=w':=by
 by_cases h1:f=3
 ·subst h1
  go_enter Tryz.func138,Tryz.ntmps138
  go_wp2_with fail
  go_ret
  exact ⟨rfl,rfl⟩
 ·by_cases h2:f=4
  ·subst h2
   go_enter Tryz.func138,Tryz.ntmps138
   go_wp2_with fail
   go_ret
   exact ⟨rfl,rfl⟩
  ·have H:Hid (chainedB f=false):=Lib.hid (by simp [chainedB,h1,h2])
   have e1:(f==3)=false:=by simpa using h1
   have e2:(f==4)=false:=by simpa using h2
   clear h1 h2
   go_enter Tryz.func138,Tryz.ntmps138
   go_wp2_with fail
   go_ret
   exact ⟨by rw [H.out];rfl,rfl⟩
def mixV (a b:Int):Int:=bits .xor .u64 (IntKind.u64.wrap (bits .xor .u64 a b*11400714819323198485)) (IntKind.u64.wrap (bits .xor .u64 a b*11400714819323198485)/536870912)
theorem u64_wrap_range (x:Int):0≤IntKind.u64.wrap x∧IntKind.u64.wrap x≤18446744073709551615:=by
 rw [IntKind.wrap_u64];omega
theorem mixV_range (a b:Int):0≤mixV a b∧mixV a b≤18446744073709551615:=u64_wrap_range _
theorem mix_any (a b:Int) (w:World):Calls Tryz.prog 176 #[.int .u64 a,.int .u64 b] w fun e w'=>e = .returned (.int .u64 (mixV a b))∧w=w':=by
 go_enter Tryz.func176,Tryz.ntmps176
 go_wp2_with fail
 go_ret
 exact ⟨rfl,rfl⟩
def hashV (r:Rec):Int:=
 mixV (mixV (mixV 1 (bits .or .u64 (bits .or .u64 (r.form*281474976710656) (r.top*1099511627776)) (r.bot*4294967296))) (bits .or .u64 (r.lo.tag*4294967296) r.lo.pos)) (bits .or .u64 (r.hi.tag*4294967296) r.hi.pos)
theorem hash_any (r:Rec) (w:World) (hr:r.Wf):Calls Tryz.prog 175 #[.agg r.cells.toArray] w fun e w'=>e = .returned (.int .u64 (hashV r))∧Below w.heap.size w w':=by
 obtain ⟨f,t,b,⟨lt,lp⟩,⟨ht,hp⟩⟩:=r
 obtain ⟨⟨h1,h2⟩,⟨h3,h4⟩,⟨h5,h6⟩,⟨h7,h8,h9,h10⟩,⟨h11,h12,h13,h14⟩⟩:=hr
 simp only [Rec.cells] at h1 h2 h3 h4 h5 h6 h7 h8 h9 h10 h11 h12 h13 h14 ⊢
 go_enter Tryz.func175,Tryz.ntmps175
 go_wp2_with fail
 refine (mix_any _ _ _).mono ?_
 rintro e w' ⟨rfl,rfl⟩
 go_wp2_with fail
 refine (mix_any _ _ _).mono ?_
 rintro e w' ⟨rfl,rfl⟩
 go_wp2_with fail
 refine (mix_any _ _ _).mono ?_
 rintro e w' ⟨rfl,rfl⟩
 go_wp2_with fail
 go_ret
 exact ⟨rfl,((Below.refl _ _).alloc (Nat.le_refl _) _).alloc (by simp) _⟩
theorem plain_noA {f l n:Int} {e:Edg} (h:¬(1≤f∧f≤5∧0≤n∧n≤16∧0≤l∧l≤n)):plain f e l n=false:=by unfold plain;rw [decide_eq_false h];rfl
theorem plain_tag {f l n:Int} {e:Edg} (h:1≤f∧f≤5∧0≤n∧n≤16∧0≤l∧l≤n) (h2:f≠5∨e.pos=0):plain f e l n=(e.tag==0):=by
 unfold plain;rw [decide_eq_true h,if_pos h2];by_cases ht:e.tag=0<;>simp [ht]
theorem plain_tbdd {f l n:Int} {e:Edg} (h:1≤f∧f≤5∧0≤n∧n≤16∧0≤l∧l≤n) (h2:¬(f≠5∨e.pos=0)):plain f e l n=(decide (l≤e.tag)&&decide (e.tag≤n)):=by
 unfold plain;rw [decide_eq_true h,if_neg h2];simp
set_option maxHeartbeats 1000000 in
theorem plain_any (f:Int) (e:Edg) (l n:Int) (w:World) (hf:0≤f∧f≤255) (he:e.Wf):Calls Tryz.prog 75 #[.int .u8 f,.agg e.cells.toArray,.int .i64 l,.int .i64 n] w fun r w'=>r = .returned (.bool (plain f e l n))∧Below w.heap.size w w':=by
 obtain ⟨t,p⟩:=e
 obtain ⟨h1,h2,h3,h4⟩:=he
 obtain ⟨h5,h6⟩:=hf
 simp only [Edg.cells] at h1 h2 h3 h4 ⊢
 have hfin:Below w.heap.size w (w.alloc (.cells #[.int .u8 t,.int .u32 p] 48)):=(Below.refl _ _).alloc (Nat.le_refl _) _
 by_cases hF:1≤f∧f≤5
 ·have HF:Hid (isFormB f=true):=Lib.hid (by simpa [isFormB] using hF)
  by_cases hN:0≤n∧n≤16
  ·have HN:Hid (mayB n=true):=Lib.hid (by simpa [mayB] using hN)
   by_cases hl:0≤l
   ·by_cases hln:l≤n
    ·have HA:Hid (1≤f∧f≤5∧0≤n∧n≤16∧0≤l∧l≤n):=Lib.hid ⟨hF.1,hF.2,hN.1,hN.2,hl,hln⟩
     have hl0:¬l<0:=by omega
     have hln0:¬n<l:=by omega
     by_cases hf5:f=5
     ·subst hf5
      by_cases hp0:p=0
      ·subst hp0
       have HR:Hid (plain 5 ⟨t,0⟩ l n=(t==0)):=Lib.hid (plain_tag HA.out (.inr rfl))
       by_cases ht:t=0
       ·subst ht
        clear hF hN hl hln
        go_enter Tryz.func75,Tryz.ntmps75
        go_wp2_with fail
        refine (isForm_any _ _).mono ?_
        rintro e w' ⟨rfl,rfl⟩
        rw [HF.out]
        go_wp2_with fail
        refine (nodeMay_any _ _).mono ?_
        rintro e w' ⟨rfl,rfl⟩
        rw [HN.out]
        go_wp2_with fail
        go_ret
        exact ⟨by rw [HR.out];rfl,hfin⟩
       ·have ht0:(t==0)=false:=by simpa using ht
        clear hF hN hl hln ht
        go_enter Tryz.func75,Tryz.ntmps75
        go_wp2_with fail
        refine (isForm_any _ _).mono ?_
        rintro e w' ⟨rfl,rfl⟩
        rw [HF.out]
        go_wp2_with fail
        refine (nodeMay_any _ _).mono ?_
        rintro e w' ⟨rfl,rfl⟩
        rw [HN.out]
        go_wp2_with fail
        go_ret
        exact ⟨by rw [HR.out,ht0];rfl,hfin⟩
      ·have hp00:(p==0)=false:=by simpa using hp0
       have HR:Hid (plain 5 ⟨t,p⟩ l n=(decide (l≤t)&&decide (t≤n))):=Lib.hid (plain_tbdd HA.out (by simp [hp0]))
       clear hF hN hl hln hp0
       by_cases ht:l≤t
       ·by_cases ht2:t≤n
        all_goals
         go_enter Tryz.func75,Tryz.ntmps75
         go_wp2_with fail
         refine (isForm_any _ _).mono ?_
         rintro e w' ⟨rfl,rfl⟩
         rw [HF.out]
         go_wp2_with fail
         refine (nodeMay_any _ _).mono ?_
         rintro e w' ⟨rfl,rfl⟩
         rw [HN.out]
         go_wp2_with fail
         go_ret
         exact ⟨by rw [HR.out];simp [ht,ht2],hfin⟩
       ·go_enter Tryz.func75,Tryz.ntmps75
        go_wp2_with fail
        refine (isForm_any _ _).mono ?_
        rintro e w' ⟨rfl,rfl⟩
        rw [HF.out]
        go_wp2_with fail
        refine (nodeMay_any _ _).mono ?_
        rintro e w' ⟨rfl,rfl⟩
        rw [HN.out]
        go_wp2_with fail
        go_ret
        exact ⟨by rw [HR.out];simp;omega,hfin⟩
     ·have HR:Hid (plain f ⟨t,p⟩ l n=(t==0)):=Lib.hid (plain_tag HA.out (.inl hf5))
      have hf50:(f==5)=false:=by simpa using hf5
      have hf51:(f != 5)=true:=by simpa using hf5
      clear hF hN hl hln hf5
      by_cases ht:t=0
      ·subst ht
       go_enter Tryz.func75,Tryz.ntmps75
       go_wp2_with fail
       refine (isForm_any _ _).mono ?_
       rintro e w' ⟨rfl,rfl⟩
       rw [HF.out]
       go_wp2_with fail
       refine (nodeMay_any _ _).mono ?_
       rintro e w' ⟨rfl,rfl⟩
       rw [HN.out]
       go_wp2_with fail
       go_ret
       exact ⟨by rw [HR.out];rfl,hfin⟩
      ·have ht0:(t==0)=false:=by simpa using ht
       clear ht
       go_enter Tryz.func75,Tryz.ntmps75
       go_wp2_with fail
       refine (isForm_any _ _).mono ?_
       rintro e w' ⟨rfl,rfl⟩
       rw [HF.out]
       go_wp2_with fail
       refine (nodeMay_any _ _).mono ?_
       rintro e w' ⟨rfl,rfl⟩
       rw [HN.out]
       go_wp2_with fail
       go_ret
       exact ⟨by rw [HR.out,ht0];rfl,hfin⟩
    ·have HR:Hid (plain f ⟨t,p⟩ l n=false):=Lib.hid (plain_noA (by omega))
     have hl0:¬l<0:=by omega
     have hln0:n<l:=by omega
     clear hF hN hl hln
     go_enter Tryz.func75,Tryz.ntmps75
     go_wp2_with fail
     refine (isForm_any _ _).mono ?_
     rintro e w' ⟨rfl,rfl⟩
     rw [HF.out]
     go_wp2_with fail
     refine (nodeMay_any _ _).mono ?_
     rintro e w' ⟨rfl,rfl⟩
     rw [HN.out]
     go_wp2_with fail
     go_ret
     exact ⟨by rw [HR.out];rfl,hfin⟩
   ·have HR:Hid (plain f ⟨t,p⟩ l n=false):=Lib.hid (plain_noA (by omega))
    have hl0:l<0:=by omega
    clear hF hN hl
    go_enter Tryz.func75,Tryz.ntmps75
    go_wp2_with fail
    refine (isForm_any _ _).mono ?_
    rintro e w' ⟨rfl,rfl⟩
    rw [HF.out]
    go_wp2_with fail
    refine (nodeMay_any _ _).mono ?_
    rintro e w' ⟨rfl,rfl⟩
    rw [HN.out]
    go_wp2_with fail
    go_ret
    exact ⟨by rw [HR.out];rfl,hfin⟩
  ·have HN:Hid (mayB n=false):=Lib.hid (by simp [mayB];omega)
   have HR:Hid (plain f ⟨t,p⟩ l n=false):=Lib.hid (plain_noA (by omega))
   clear hF hN
   go_enter Tryz.func75,Tryz.ntmps75
   go_wp2_with fail
   refine (isForm_any _ _).mono ?_
   rintro e w' ⟨rfl,rfl⟩
   rw [HF.out]
   go_wp2_with fail
   refine (nodeMay_any _ _).mono ?_
   rintro e w' ⟨rfl,rfl⟩
   rw [HN.out]
   go_wp2_with fail
   go_ret
   exact ⟨by rw [HR.out];rfl,hfin⟩
 ·have HF:Hid (isFormB f=false):=Lib.hid (by simp [isFormB];omega)
  have HR:Hid (plain f ⟨t,p⟩ l n=false):=Lib.hid (plain_noA (by omega))
  clear hF
  go_enter Tryz.func75,Tryz.ntmps75
  go_wp2_with fail
  refine (isForm_any _ _).mono ?_
  rintro e w' ⟨rfl,rfl⟩
  rw [HF.out]
  go_wp2_with fail
  go_ret
  exact ⟨by rw [HR.out];rfl,hfin⟩
end
end Go.Proofs.YtnlmlehcpngcgaaGreat
