/- Contract: node.Right. -/
import Derived.Test.YtnlmlehcpngcgaaGreatQad
namespace Go.Proofs.YtnlmlehcpngcgaaGreat
set_option linter.unusedSimpArgs false
set_option linter.unusedVariables false
section
open Go.RowKit
theorem right_noA {r:Rec} {n:Int} (h:¬(1≤r.form∧r.form≤5∧0≤n∧n≤16∧r.top≤r.bot∧r.bot<n∧(r.top=r.bot∨r.form=3∨r.form=4))):right r n=false:=by unfold right;rw [decide_eq_false h];rfl
theorem right_lo {r:Rec} {n:Int} (h:plain r.form r.lo (r.bot+1) n=false):right r n=false:=by unfold right;rw [h];simp
theorem right_hi {r:Rec} {n:Int} (h:plain r.form r.hi (r.bot+1) n=false):right r n=false:=by unfold right;rw [h];simp
theorem right_end {r:Rec} {n:Int} (h:1≤r.form∧r.form≤5∧0≤n∧n≤16∧r.top≤r.bot∧r.bot<n∧(r.top=r.bot∨r.form=3∨r.form=4)) (h1:plain r.form r.lo (r.bot+1) n=true) (h2:plain r.form r.hi (r.bot+1) n=true) :
  right r n=if r.form=2∨r.form=4 then (r.hi.pos != 0) else (r.lo != r.hi):=by
 unfold right;rw [decide_eq_true h,h1,h2];split
 ·by_cases hp:r.hi.pos=0<;>simp [hp]
 ·by_cases hp:r.lo=r.hi<;>simp [hp]
theorem ret_edge_eq {a b c d:Int} (h:a=c) (h2:b=d):Ending.returned (.bool false) = .returned (.bool ((⟨a,b⟩:Edg) != ⟨c,d⟩)):=by subst h h2;simp
theorem ret_edge_tag {a b c d:Int} (h:¬a=c):Ending.returned (.bool true) = .returned (.bool ((⟨a,b⟩:Edg) != ⟨c,d⟩)):=by
 have:(⟨a,b⟩:Edg)≠⟨c,d⟩:=fun e=>h (by injection e)
 rw [(bne_iff_ne).2 this]
theorem ret_edge_pos {a b c d:Int} (h:¬b=d):Ending.returned (.bool true) = .returned (.bool ((⟨a,b⟩:Edg) != ⟨c,d⟩)):=by
 have:(⟨a,b⟩:Edg)≠⟨c,d⟩:=fun e=>h (by injection e)
 rw [(bne_iff_ne).2 this]
set_option maxHeartbeats 4000000 in
theorem right_any (r:Rec) (n:Int) (w:World) (hr:r.Wf) (hn2:n≤9223372036854775807):Calls Tryz.prog 130 #[.agg r.cells.toArray,.int .i64 n] w fun e w'=>e = .returned (.bool (right r n))∧Below w.heap.size w w':=by
 obtain ⟨f,t,b,⟨lt,lp⟩,⟨ht,hp⟩⟩:=r
 obtain ⟨⟨h1,h2⟩,⟨h3,h4⟩,⟨h5,h6⟩,⟨h7,h8,h9,h10⟩,⟨h11,h12,h13,h14⟩⟩:=hr
 simp only [Rec.cells] at h1 h2 h3 h4 h5 h6 h7 h8 h9 h10 h11 h12 h13 h14 ⊢
 have hwl:Edg.Wf ⟨lt,lp⟩:=⟨h7,h8,h9,h10⟩
 have hwh:Edg.Wf ⟨ht,hp⟩:=⟨h11,h12,h13,h14⟩
 have HWL:=Lib.hid hwl
 have HWH:=Lib.hid hwh
 clear hwl hwh
 have hfin:Below w.heap.size w (w.alloc (.cells #[.int .u8 f,.int .u8 t,.int .u8 b,.int .u8 lt,.int .u32 lp,.int .u8 ht,.int .u32 hp] 78)):=(Below.refl _ _).alloc (Nat.le_refl _) _
 by_cases hF:1≤f∧f≤5
 ·have HF:Hid (isFormB f=true):=Lib.hid (by simpa [isFormB] using hF)
  by_cases hN:0≤n∧n≤16
  ·have HN:Hid (mayB n=true):=Lib.hid (by simpa [mayB] using hN)
   by_cases htb:t≤b
   ·by_cases hbn:b<n
    ·by_cases hX:t=b∨f=3∨f=4
     ·have HA:Hid (1≤f∧f≤5∧0≤n∧n≤16∧t≤b∧b<n∧(t=b∨f=3∨f=4)):=Lib.hid ⟨hF.1,hF.2,hN.1,hN.2,htb,hbn,hX⟩
      have q1:¬b<t:=by omega
      have q2:¬n≤b:=by omega
      by_cases hte:t=b
      ·subst hte
       have q3:(t==t)=true:=by simp
       have q4:(t != t)=false:=by simp
       cases hL:plain f ⟨lt,lp⟩ (t+1) n
       ·have HL:=Lib.hid hL
        have HR:Hid (right ⟨f,t,t,⟨lt,lp⟩,⟨ht,hp⟩⟩ n=false):=Lib.hid (right_lo HL.out)
        clear hL hF hN hX
        go_enter Tryz.func130,Tryz.ntmps130
        go_wp2_with fail
        go_quiet (fail)
        go_wp2_with fail
        refine (isForm_any _ _).mono ?_
        rintro e w' ⟨rfl,rfl⟩
        rw [HF.out]
        go_wp2_with fail
        refine (nodeMay_any _ _).mono ?_
        rintro e w' ⟨rfl,rfl⟩
        rw [HN.out]
        go_wp2_with fail
        refine (plain_any f ⟨lt,lp⟩ _ _ _ ⟨h1,h2⟩ HWL.out).mono ?_
        rintro e w1 ⟨rfl,hb1⟩
        rw [HL.out]
        have hc1:∀k,w1.cell? ⟨w.heap.size,k,none⟩=_:=fun k=>hb1.cell (p:=⟨w.heap.size,k,none⟩) (by simp)
        have hsz1:=hb1.size
        go_wp2_with fail
        go_ret
        exact ⟨by rw [HR.out];rfl,(below_drewN hfin _).trans (hb1.mono (by simp))⟩
       ·have HL:=Lib.hid hL
        clear hL
        cases hH:plain f ⟨ht,hp⟩ (t+1) n
        ·have HH:=Lib.hid hH
         have HR:Hid (right ⟨f,t,t,⟨lt,lp⟩,⟨ht,hp⟩⟩ n=false):=Lib.hid (right_hi HH.out)
         clear hH hF hN hX
         go_enter Tryz.func130,Tryz.ntmps130
         go_wp2_with fail
         go_quiet (fail)
         go_wp2_with fail
         refine (isForm_any _ _).mono ?_
         rintro e w' ⟨rfl,rfl⟩
         rw [HF.out]
         go_wp2_with fail
         refine (nodeMay_any _ _).mono ?_
         rintro e w' ⟨rfl,rfl⟩
         rw [HN.out]
         go_wp2_with fail
         refine (plain_any f ⟨lt,lp⟩ _ _ _ ⟨h1,h2⟩ HWL.out).mono ?_
         rintro e w1 ⟨rfl,hb1⟩
         rw [HL.out]
         have hc1:∀k,w1.cell? ⟨w.heap.size,k,none⟩=_:=fun k=>hb1.cell (p:=⟨w.heap.size,k,none⟩) (by simp)
         have hsz1:=hb1.size
         go_wp2_with fail
         refine (plain_any f ⟨ht,hp⟩ _ _ _ ⟨h1,h2⟩ HWH.out).mono ?_
         rintro e w2 ⟨rfl,hb2⟩
         rw [HH.out]
         have hc2:∀k,w2.cell? ⟨w.heap.size,k,none⟩=_:=fun k=>(hb2.cell (p:=⟨w.heap.size,k,none⟩) (by have:=hb1.size;simp at this;show w.heap.size<_;omega)).trans (hc1 k)
         go_wp2_with fail
         go_ret
         exact ⟨by rw [HR.out];rfl,((below_drewN hfin _).trans (hb1.mono (by simp))).trans (hb2.mono (by have:=hb1.size;simp at this;omega))⟩
        ·have HH:=Lib.hid hH
         have HR:=Lib.hid (right_end (r:=⟨f,t,t,⟨lt,lp⟩,⟨ht,hp⟩⟩) HA.out HL.out HH.out)
         clear hH hF hN hX
         by_cases g2:f=2
         ·have HG:Hid (f=2∨f=4):=Lib.hid (.inl g2)
          have g3:(f==2)=true:=by simpa using g2
          clear g2
          go_enter Tryz.func130,Tryz.ntmps130
          go_wp2_with fail
          go_quiet (fail)
          go_wp2_with fail
          refine (isForm_any _ _).mono ?_
          rintro e w' ⟨rfl,rfl⟩
          rw [HF.out]
          go_wp2_with fail
          refine (nodeMay_any _ _).mono ?_
          rintro e w' ⟨rfl,rfl⟩
          rw [HN.out]
          go_wp2_with fail
          refine (plain_any f ⟨lt,lp⟩ _ _ _ ⟨h1,h2⟩ HWL.out).mono ?_
          rintro e w1 ⟨rfl,hb1⟩
          rw [HL.out]
          have hc1:∀k,w1.cell? ⟨w.heap.size,k,none⟩=_:=fun k=>hb1.cell (p:=⟨w.heap.size,k,none⟩) (by simp)
          have hsz1:=hb1.size
          go_wp2_with fail
          refine (plain_any f ⟨ht,hp⟩ _ _ _ ⟨h1,h2⟩ HWH.out).mono ?_
          rintro e w2 ⟨rfl,hb2⟩
          rw [HH.out]
          have hc2:∀k,w2.cell? ⟨w.heap.size,k,none⟩=_:=fun k=>(hb2.cell (p:=⟨w.heap.size,k,none⟩) (by have:=hb1.size;simp at this;show w.heap.size<_;omega)).trans (hc1 k)
          go_wp2_with fail
          go_ret
          exact ⟨by rw [HR.out];rw [if_pos HG.out];rfl,((below_drewN hfin _).trans (hb1.mono (by simp))).trans (hb2.mono (by have:=hb1.size;simp at this;omega))⟩
         ·have g2':(f==2)=false:=by simpa using g2
          by_cases g4:f=4
          ·have HG:Hid (f=2∨f=4):=Lib.hid (.inr g4)
           have g3:(f==4)=true:=by simpa using g4
           clear g2 g4
           go_enter Tryz.func130,Tryz.ntmps130
           go_wp2_with fail
           go_quiet (fail)
           go_wp2_with fail
           refine (isForm_any _ _).mono ?_
           rintro e w' ⟨rfl,rfl⟩
           rw [HF.out]
           go_wp2_with fail
           refine (nodeMay_any _ _).mono ?_
           rintro e w' ⟨rfl,rfl⟩
           rw [HN.out]
           go_wp2_with fail
           refine (plain_any f ⟨lt,lp⟩ _ _ _ ⟨h1,h2⟩ HWL.out).mono ?_
           rintro e w1 ⟨rfl,hb1⟩
           rw [HL.out]
           have hc1:∀k,w1.cell? ⟨w.heap.size,k,none⟩=_:=fun k=>hb1.cell (p:=⟨w.heap.size,k,none⟩) (by simp)
           have hsz1:=hb1.size
           go_wp2_with fail
           refine (plain_any f ⟨ht,hp⟩ _ _ _ ⟨h1,h2⟩ HWH.out).mono ?_
           rintro e w2 ⟨rfl,hb2⟩
           rw [HH.out]
           have hc2:∀k,w2.cell? ⟨w.heap.size,k,none⟩=_:=fun k=>(hb2.cell (p:=⟨w.heap.size,k,none⟩) (by have:=hb1.size;simp at this;show w.heap.size<_;omega)).trans (hc1 k)
           go_wp2_with fail
           go_ret
           exact ⟨by rw [HR.out];rw [if_pos HG.out];rfl,((below_drewN hfin _).trans (hb1.mono (by simp))).trans (hb2.mono (by have:=hb1.size;simp at this;omega))⟩
          ·have g4':(f==4)=false:=by simpa using g4
           have HG:Hid (¬ (f=2∨f=4)):=Lib.hid (by omega)
           clear g2 g4
           go_enter Tryz.func130,Tryz.ntmps130
           go_wp2_with fail
           go_quiet (fail)
           go_wp2_with fail
           refine (isForm_any _ _).mono ?_
           rintro e w' ⟨rfl,rfl⟩
           rw [HF.out]
           go_wp2_with fail
           refine (nodeMay_any _ _).mono ?_
           rintro e w' ⟨rfl,rfl⟩
           rw [HN.out]
           go_wp2_with fail
           refine (plain_any f ⟨lt,lp⟩ _ _ _ ⟨h1,h2⟩ HWL.out).mono ?_
           rintro e w1 ⟨rfl,hb1⟩
           rw [HL.out]
           have hc1:∀k,w1.cell? ⟨w.heap.size,k,none⟩=_:=fun k=>hb1.cell (p:=⟨w.heap.size,k,none⟩) (by simp)
           have hsz1:=hb1.size
           go_wp2_with fail
           refine (plain_any f ⟨ht,hp⟩ _ _ _ ⟨h1,h2⟩ HWH.out).mono ?_
           rintro e w2 ⟨rfl,hb2⟩
           rw [HH.out]
           have hc2:∀k,w2.cell? ⟨w.heap.size,k,none⟩=_:=fun k=>(hb2.cell (p:=⟨w.heap.size,k,none⟩) (by have:=hb1.size;simp at this;show w.heap.size<_;omega)).trans (hc1 k)
           go_wp2_with fail
           all_goals
            go_ret
            exact ⟨by rw [HR.out];rw [if_neg HG.out];first |exact ret_edge_eq (by assumption) (by assumption)|exact ret_edge_tag (by assumption)|exact ret_edge_pos (by assumption),((below_drewN hfin _).trans (hb1.mono (by simp))).trans (hb2.mono (by have:=hb1.size;simp at this;omega))⟩
      ·have q3:(t==b)=false:=by simpa using hte
       have q4:(t != b)=true:=by simpa using hte
       have HC:Hid (chainedB f=true):=Lib.hid (by simp [chainedB];omega)
       clear hte
       cases hL:plain f ⟨lt,lp⟩ (b+1) n
       ·have HL:=Lib.hid hL
        have HR:Hid (right ⟨f,t,b,⟨lt,lp⟩,⟨ht,hp⟩⟩ n=false):=Lib.hid (right_lo HL.out)
        clear hL hF hN hX
        go_enter Tryz.func130,Tryz.ntmps130
        go_wp2_with fail
        go_quiet (fail)
        go_wp2_with fail
        refine (isForm_any _ _).mono ?_
        rintro e w' ⟨rfl,rfl⟩
        rw [HF.out]
        go_wp2_with fail
        refine (nodeMay_any _ _).mono ?_
        rintro e w' ⟨rfl,rfl⟩
        rw [HN.out]
        go_wp2_with fail
        refine (chained_any _ _).mono ?_
        rintro e w' ⟨rfl,rfl⟩
        rw [HC.out]
        go_wp2_with fail
        refine (plain_any f ⟨lt,lp⟩ _ _ _ ⟨h1,h2⟩ HWL.out).mono ?_
        rintro e w1 ⟨rfl,hb1⟩
        rw [HL.out]
        have hc1:∀k,w1.cell? ⟨w.heap.size,k,none⟩=_:=fun k=>hb1.cell (p:=⟨w.heap.size,k,none⟩) (by simp)
        have hsz1:=hb1.size
        go_wp2_with fail
        go_ret
        exact ⟨by rw [HR.out];rfl,(below_drewN hfin _).trans (hb1.mono (by simp))⟩
       ·have HL:=Lib.hid hL
        clear hL
        cases hH:plain f ⟨ht,hp⟩ (b+1) n
        ·have HH:=Lib.hid hH
         have HR:Hid (right ⟨f,t,b,⟨lt,lp⟩,⟨ht,hp⟩⟩ n=false):=Lib.hid (right_hi HH.out)
         clear hH hF hN hX
         go_enter Tryz.func130,Tryz.ntmps130
         go_wp2_with fail
         go_quiet (fail)
         go_wp2_with fail
         refine (isForm_any _ _).mono ?_
         rintro e w' ⟨rfl,rfl⟩
         rw [HF.out]
         go_wp2_with fail
         refine (nodeMay_any _ _).mono ?_
         rintro e w' ⟨rfl,rfl⟩
         rw [HN.out]
         go_wp2_with fail
         refine (chained_any _ _).mono ?_
         rintro e w' ⟨rfl,rfl⟩
         rw [HC.out]
         go_wp2_with fail
         refine (plain_any f ⟨lt,lp⟩ _ _ _ ⟨h1,h2⟩ HWL.out).mono ?_
         rintro e w1 ⟨rfl,hb1⟩
         rw [HL.out]
         have hc1:∀k,w1.cell? ⟨w.heap.size,k,none⟩=_:=fun k=>hb1.cell (p:=⟨w.heap.size,k,none⟩) (by simp)
         have hsz1:=hb1.size
         go_wp2_with fail
         refine (plain_any f ⟨ht,hp⟩ _ _ _ ⟨h1,h2⟩ HWH.out).mono ?_
         rintro e w2 ⟨rfl,hb2⟩
         rw [HH.out]
         have hc2:∀k,w2.cell? ⟨w.heap.size,k,none⟩=_:=fun k=>(hb2.cell (p:=⟨w.heap.size,k,none⟩) (by have:=hb1.size;simp at this;show w.heap.size<_;omega)).trans (hc1 k)
         go_wp2_with fail
         go_ret
         exact ⟨by rw [HR.out];rfl,((below_drewN hfin _).trans (hb1.mono (by simp))).trans (hb2.mono (by have:=hb1.size;simp at this;omega))⟩
        ·have HH:=Lib.hid hH
         have HR:=Lib.hid (right_end (r:=⟨f,t,b,⟨lt,lp⟩,⟨ht,hp⟩⟩) HA.out HL.out HH.out)
         clear hH hF hN hX
         by_cases g2:f=2
         ·have HG:Hid (f=2∨f=4):=Lib.hid (.inl g2)
          have g3:(f==2)=true:=by simpa using g2
          clear g2
          go_enter Tryz.func130,Tryz.ntmps130
          go_wp2_with fail
          go_quiet (fail)
          go_wp2_with fail
          refine (isForm_any _ _).mono ?_
          rintro e w' ⟨rfl,rfl⟩
          rw [HF.out]
          go_wp2_with fail
          refine (nodeMay_any _ _).mono ?_
          rintro e w' ⟨rfl,rfl⟩
          rw [HN.out]
          go_wp2_with fail
          refine (chained_any _ _).mono ?_
          rintro e w' ⟨rfl,rfl⟩
          rw [HC.out]
          go_wp2_with fail
          refine (plain_any f ⟨lt,lp⟩ _ _ _ ⟨h1,h2⟩ HWL.out).mono ?_
          rintro e w1 ⟨rfl,hb1⟩
          rw [HL.out]
          have hc1:∀k,w1.cell? ⟨w.heap.size,k,none⟩=_:=fun k=>hb1.cell (p:=⟨w.heap.size,k,none⟩) (by simp)
          have hsz1:=hb1.size
          go_wp2_with fail
          refine (plain_any f ⟨ht,hp⟩ _ _ _ ⟨h1,h2⟩ HWH.out).mono ?_
          rintro e w2 ⟨rfl,hb2⟩
          rw [HH.out]
          have hc2:∀k,w2.cell? ⟨w.heap.size,k,none⟩=_:=fun k=>(hb2.cell (p:=⟨w.heap.size,k,none⟩) (by have:=hb1.size;simp at this;show w.heap.size<_;omega)).trans (hc1 k)
          go_wp2_with fail
          go_ret
          exact ⟨by rw [HR.out];rw [if_pos HG.out];rfl,((below_drewN hfin _).trans (hb1.mono (by simp))).trans (hb2.mono (by have:=hb1.size;simp at this;omega))⟩
         ·have g2':(f==2)=false:=by simpa using g2
          by_cases g4:f=4
          ·have HG:Hid (f=2∨f=4):=Lib.hid (.inr g4)
           have g3:(f==4)=true:=by simpa using g4
           clear g2 g4
           go_enter Tryz.func130,Tryz.ntmps130
           go_wp2_with fail
           go_quiet (fail)
           go_wp2_with fail
           refine (isForm_any _ _).mono ?_
           rintro e w' ⟨rfl,rfl⟩
           rw [HF.out]
           go_wp2_with fail
           refine (nodeMay_any _ _).mono ?_
           rintro e w' ⟨rfl,rfl⟩
           rw [HN.out]
           go_wp2_with fail
           refine (chained_any _ _).mono ?_
           rintro e w' ⟨rfl,rfl⟩
           rw [HC.out]
           go_wp2_with fail
           refine (plain_any f ⟨lt,lp⟩ _ _ _ ⟨h1,h2⟩ HWL.out).mono ?_
           rintro e w1 ⟨rfl,hb1⟩
           rw [HL.out]
           have hc1:∀k,w1.cell? ⟨w.heap.size,k,none⟩=_:=fun k=>hb1.cell (p:=⟨w.heap.size,k,none⟩) (by simp)
           have hsz1:=hb1.size
           go_wp2_with fail
           refine (plain_any f ⟨ht,hp⟩ _ _ _ ⟨h1,h2⟩ HWH.out).mono ?_
           rintro e w2 ⟨rfl,hb2⟩
           rw [HH.out]
           have hc2:∀k,w2.cell? ⟨w.heap.size,k,none⟩=_:=fun k=>(hb2.cell (p:=⟨w.heap.size,k,none⟩) (by have:=hb1.size;simp at this;show w.heap.size<_;omega)).trans (hc1 k)
           go_wp2_with fail
           go_ret
           exact ⟨by rw [HR.out];rw [if_pos HG.out];rfl,((below_drewN hfin _).trans (hb1.mono (by simp))).trans (hb2.mono (by have:=hb1.size;simp at this;omega))⟩
          ·have g4':(f==4)=false:=by simpa using g4
           have HG:Hid (¬ (f=2∨f=4)):=Lib.hid (by omega)
           clear g2 g4
           go_enter Tryz.func130,Tryz.ntmps130
           go_wp2_with fail
           go_quiet (fail)
           go_wp2_with fail
           refine (isForm_any _ _).mono ?_
           rintro e w' ⟨rfl,rfl⟩
           rw [HF.out]
           go_wp2_with fail
           refine (nodeMay_any _ _).mono ?_
           rintro e w' ⟨rfl,rfl⟩
           rw [HN.out]
           go_wp2_with fail
           refine (chained_any _ _).mono ?_
           rintro e w' ⟨rfl,rfl⟩
           rw [HC.out]
           go_wp2_with fail
           refine (plain_any f ⟨lt,lp⟩ _ _ _ ⟨h1,h2⟩ HWL.out).mono ?_
           rintro e w1 ⟨rfl,hb1⟩
           rw [HL.out]
           have hc1:∀k,w1.cell? ⟨w.heap.size,k,none⟩=_:=fun k=>hb1.cell (p:=⟨w.heap.size,k,none⟩) (by simp)
           have hsz1:=hb1.size
           go_wp2_with fail
           refine (plain_any f ⟨ht,hp⟩ _ _ _ ⟨h1,h2⟩ HWH.out).mono ?_
           rintro e w2 ⟨rfl,hb2⟩
           rw [HH.out]
           have hc2:∀k,w2.cell? ⟨w.heap.size,k,none⟩=_:=fun k=>(hb2.cell (p:=⟨w.heap.size,k,none⟩) (by have:=hb1.size;simp at this;show w.heap.size<_;omega)).trans (hc1 k)
           go_wp2_with fail
           all_goals
            go_ret
            exact ⟨by rw [HR.out];rw [if_neg HG.out];first |exact ret_edge_eq (by assumption) (by assumption)|exact ret_edge_tag (by assumption)|exact ret_edge_pos (by assumption),((below_drewN hfin _).trans (hb1.mono (by simp))).trans (hb2.mono (by have:=hb1.size;simp at this;omega))⟩
     ·have HC:Hid (chainedB f=false):=Lib.hid (by simp [chainedB];omega)
      have q3:(t==b)=false:=by simp;omega
      have q4:(t != b)=true:=by simp;omega
      have q1:¬b<t:=by omega
      have q2:¬n≤b:=by omega
      have HR:Hid (right ⟨f,t,b,⟨lt,lp⟩,⟨ht,hp⟩⟩ n=false):=Lib.hid (right_noA (by simp only;omega))
      clear hF hN hX
      go_enter Tryz.func130,Tryz.ntmps130
      go_wp2_with fail
      go_quiet (fail)
      go_wp2_with fail
      refine (isForm_any _ _).mono ?_
      rintro e w' ⟨rfl,rfl⟩
      rw [HF.out]
      go_wp2_with fail
      refine (nodeMay_any _ _).mono ?_
      rintro e w' ⟨rfl,rfl⟩
      rw [HN.out]
      go_wp2_with fail
      refine (chained_any _ _).mono ?_
      rintro e w' ⟨rfl,rfl⟩
      rw [HC.out]
      go_wp2_with fail
      go_ret
      exact ⟨by rw [HR.out];rfl,below_drewN hfin _⟩
    ·have q1:¬b<t:=by omega
     have q2:n≤b:=by omega
     have HR:Hid (right ⟨f,t,b,⟨lt,lp⟩,⟨ht,hp⟩⟩ n=false):=Lib.hid (right_noA (by simp only;omega))
     clear hF hN hbn
     go_enter Tryz.func130,Tryz.ntmps130
     go_wp2_with fail
     go_quiet (fail)
     go_wp2_with fail
     refine (isForm_any _ _).mono ?_
     rintro e w' ⟨rfl,rfl⟩
     rw [HF.out]
     go_wp2_with fail
     refine (nodeMay_any _ _).mono ?_
     rintro e w' ⟨rfl,rfl⟩
     rw [HN.out]
     go_wp2_with fail
     go_ret
     exact ⟨by rw [HR.out];rfl,below_drewN hfin _⟩
   ·have q1:b<t:=by omega
    have HR:Hid (right ⟨f,t,b,⟨lt,lp⟩,⟨ht,hp⟩⟩ n=false):=Lib.hid (right_noA (by simp only;omega))
    clear hF hN htb
    go_enter Tryz.func130,Tryz.ntmps130
    go_wp2_with fail
    go_quiet (fail)
    go_wp2_with fail
    refine (isForm_any _ _).mono ?_
    rintro e w' ⟨rfl,rfl⟩
    rw [HF.out]
    go_wp2_with fail
    refine (nodeMay_any _ _).mono ?_
    rintro e w' ⟨rfl,rfl⟩
    rw [HN.out]
    go_wp2_with fail
    go_ret
    exact ⟨by rw [HR.out];rfl,below_drewN hfin _⟩
  ·have HN:Hid (mayB n=false):=Lib.hid (by simp [mayB];omega)
   have HR:Hid (right ⟨f,t,b,⟨lt,lp⟩,⟨ht,hp⟩⟩ n=false):=Lib.hid (right_noA (by simp only;omega))
   clear hF hN
   go_enter Tryz.func130,Tryz.ntmps130
   go_wp2_with fail
   go_quiet (fail)
   go_wp2_with fail
   refine (isForm_any _ _).mono ?_
   rintro e w' ⟨rfl,rfl⟩
   rw [HF.out]
   go_wp2_with fail
   refine (nodeMay_any _ _).mono ?_
   rintro e w' ⟨rfl,rfl⟩
   rw [HN.out]
   go_wp2_with fail
   go_ret
   exact ⟨by rw [HR.out];rfl,below_drewN hfin _⟩
 ·have HF:Hid (isFormB f=false):=Lib.hid (by simp [isFormB];omega)
  have HR:Hid (right ⟨f,t,b,⟨lt,lp⟩,⟨ht,hp⟩⟩ n=false):=Lib.hid (right_noA (by simp only;omega))
  clear hF
  go_enter Tryz.func130,Tryz.ntmps130
  go_wp2_with fail
  go_quiet (fail)
  go_wp2_with fail
  refine (isForm_any _ _).mono ?_
  rintro e w' ⟨rfl,rfl⟩
  rw [HF.out]
  go_wp2_with fail
  go_ret
  exact ⟨by rw [HR.out];rfl,below_drewN hfin _⟩
end
end Go.Proofs.YtnlmlehcpngcgaaGreat
