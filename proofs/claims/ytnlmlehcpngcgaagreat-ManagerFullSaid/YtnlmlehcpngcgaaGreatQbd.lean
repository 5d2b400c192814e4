/- The library's sort of uint32: what it leaves is a permutation (1): comparing, insertion. The library's sort of uint32: what it leaves is a permutation (2): the heap, reversing. The library's sort of uint32: what it leaves is a permutation (6): patterns broken. -/
import Derived.Test.YtnlmlehcpngcgaaGreatQaa
import Derived.RegionTactic
import Derived.BigRegion
import Derived.Deep.QuietTactic
import Derived.BigQuiet
import Derived.IntWalk
import Derived.Test.YtnlmlehcpngcgaaGreatShelf
import Derived.Lib.BitFns
import Derived.Deep.DeepCutAuto
namespace Go.Proofs.YtnlmlehcpngcgaaGreat
set_option linter.unusedSimpArgs false
set_option linter.unusedVariables false
section
section
open Go Go.RowKit
def U32At (w:World) (g n c:Nat) (xs:List Int):Prop:=OwnF (Value.int .u32) 46 w 0 (.slice (some ⟨g,0,none⟩) n c) xs
theorem U32At.len {w:World} {g n c:Nat} {xs:List Int} (h:U32At w g n c xs):xs.length=n:=by
 obtain ⟨A,n',c',e,e1,_⟩:=OwnF.form h
 injection e with _ e2 _
 omega
theorem U32At.drewN {w:World} {g n c:Nat} {xs:List Int} (h:U32At w g n c xs) (k:Nat):U32At (w.drewN k) g n c xs:=OwnF.drewN h k
def Srt (w:World) (g n c:Nat) (xs:List Int) (w':World):Prop:=∃ys:List Int,ys.Perm xs∧U32At w' g n c ys∧Chg [g] w w'
theorem Srt.refl {w:World} {g n c:Nat} {xs:List Int} (h:U32At w g n c xs):Srt w g n c xs w:=⟨xs,.refl _,h,Chg.refl _ _⟩
theorem Srt.drewN {w w':World} {g n c:Nat} {xs:List Int} (h:Srt w g n c xs w') (k:Nat):Srt w g n c xs (w'.drewN k):=by
 obtain ⟨ys,h1,h2,h3⟩:=h
 exact ⟨ys,h1,h2.drewN k,h3.drewN k⟩
theorem Srt.trans {w w1 w2:World} {g n c:Nat} {xs ys:List Int} (h1:ys.Perm xs) (h2:Chg [g] w w1) (h:Srt w1 g n c ys w2):Srt w g n c xs w2:=by
 obtain ⟨zs,k1,k2,k3⟩:=h
 exact ⟨zs,k1.trans h1,k2,h2.trans k3 (fun x hx=> .inl hx)⟩
theorem swap_perm:∀(xs:List Int) (i j:Nat),i<xs.length→j<xs.length→((xs.set i (xs[j]?.getD 0)).set j (xs[i]?.getD 0)).Perm xs:=by
 intro xs i j hi hj
 rw [List.getElem?_eq_getElem hi,List.getElem?_eq_getElem hj]
 simp only [Option.getD_some]
 exact List.set_set_perm hi hj
theorem U32At.cell {w:World} {g n c:Nat} {xs:List Int} (h:U32At w g n c xs) {k:Nat} (hk:k<n):w.cell? ⟨g,k,none⟩=some (.int .u32 (xs[k]?.getD 0))∧w.frozen? ⟨g,k,none⟩=false:=by
 have hl:=h.len
 obtain ⟨h1,h2⟩:=OwnF.at_ h k (by omega)
 refine ⟨?_,h2⟩
 rw [h1,List.getElem?_eq_getElem (by omega)]
 rfl
theorem U32At.swap {w:World} {g n c:Nat} {xs:List Int} (h:U32At w g n c xs) {i j:Nat} (hi:i<n) (hj:j<n):Srt w g n c xs ((w.setCell ⟨g,i,none⟩ (.int .u32 (xs[j]?.getD 0))).setCell ⟨g,j,none⟩ (.int .u32 (xs[i]?.getD 0))):=by
 have hl:=h.len
 refine ⟨(xs.set i (xs[j]?.getD 0)).set j (xs[i]?.getD 0),swap_perm xs i j (by omega) (by omega),?_,((Chg.refl [g] w).setCell (p:=⟨g,i,none⟩) (.inl (by simp)) _).setCell (p:=⟨g,j,none⟩) (.inl (by simp)) _⟩
 exact OwnF.set_ (OwnF.set_ h i (xs[j]?.getD 0)) j (xs[i]?.getD 0)
set_option maxHeartbeats 1000000 in
theorem nan_any (x:Int) (w:World):Calls Tryz.prog 156 #[.int .u32 x] w fun e w'=>e = .returned (.bool false)∧w=w':=by
 go_enter Tryz.func156,Tryz.ntmps156
 go_wp2_with fail
 go_ret
 exact ⟨by simp,rfl⟩
set_option maxHeartbeats 1000000 in
theorem less_yes (x y:Int) (h:x<y) (w:World):Calls Tryz.prog 146 #[.int .u32 x,.int .u32 y] w fun e w'=>e = .returned (.bool true)∧w=w':=by
 have HN:=Lib.hid (fun x W=>nan_any x W)
 have hd:decide (x<y)=true:=by simpa using h
 go_enter Tryz.func146,Tryz.ntmps146
 go_wp2_with fail
 refine (HN.out _ _).mono ?_
 rintro e w1 ⟨rfl,rfl⟩
 go_wp2_with fail
 go_ret
 exact ⟨rfl,rfl⟩
set_option maxHeartbeats 1000000 in
theorem less_no (x y:Int) (h:¬x<y) (w:World):Calls Tryz.prog 146 #[.int .u32 x,.int .u32 y] w fun e w'=>e = .returned (.bool false)∧w=w':=by
 have HN:=Lib.hid (fun x W=>nan_any x W)
 have hd:decide (x<y)=false:=by simpa using h
 go_enter Tryz.func146,Tryz.ntmps146
 go_wp2_with fail
 refine (HN.out _ _).mono ?_
 rintro e w1 ⟨rfl,rfl⟩
 go_wp2_with fail
 go_ret
 exact ⟨rfl,rfl⟩
theorem less_some (x y:Int):∃q:Bool,∀w,Calls Tryz.prog 146 #[.int .u32 x,.int .u32 y] w fun e w'=>e = .returned (.bool q)∧w=w':=by
 by_cases h:x<y
 ·exact ⟨true,fun w=>less_yes x y h w⟩
 ·exact ⟨false,fun w=>less_no x y h w⟩
set_option maxRecDepth 100000 in
set_option maxHeartbeats 8000000 in
theorem ins_any (g n c a b:Nat) (xs:List Int) (w:World) (h:U32At w g n c xs) (hab:a≤b) (hb:b≤n) (hn:n≤1000000000) :
  Calls Tryz.prog 140 #[.slice (some ⟨g,0,none⟩) n c,.int .i64 (a:Nat),.int .i64 (b:Nat)] w fun e w'=>e = .returned (.tuple #[])∧Srt w g n c xs w':=by
 have H:=Lib.hid h
 clear h
 go_enter Tryz.func140,Tryz.ntmps140
 go_wp2_with fail
 go_loopw [6] (fun vi wr=>∃i:Nat,a+1≤i∧i≤b+1∧vi = .int .i64 (i:Nat)∧Srt w g n c xs wr) (fun vi _=>b+1-(intOf vi).toNat)
 case atStart=>exact ⟨a+1,by omega,by omega,by go_num,Srt.refl H.out⟩
 case round=>
  obtain ⟨i,hi1,hi2,rfl,hs⟩:=hrel
  have HS:=Lib.hid hs
  clear hs
  by_cases hib:i<b
  ·have e1:(i:Int)<(b:Int):=by omega
   go_wp2_with fail
   obtain ⟨wo,hwo⟩:∃wo:World,wo=wr:=⟨_,rfl⟩
   rw [← hwo] at HS
   subst hwo
   go_loopw [7] (fun vj wq=>∃j:Nat,a≤j∧j≤i∧vj = .int .i64 (j:Nat)∧Srt w g n c xs wq) (fun vj _=>(intOf vj).toNat)
   case atStart=>exact ⟨i,by omega,by omega,rfl,HS.out⟩
   case round=>
    obtain ⟨j,hj1,hj2,rfl,ys,hp,hu,hc⟩:=hrel
    have HP:=Lib.hid (And.intro hp (And.intro hu hc))
    clear hp hc
    by_cases hja:a<j
    ·have e2:(a:Int)<(j:Int):=by omega
     have e3:(0:Int)≤(j:Int)-1:=by omega
     have e4:(j:Int)-1<(n:Int):=by omega
     have e5:((j:Int)-1).toNat=j-1:=by omega
     have e6:IntKind.i64.wrap ((j:Int)-1)=(j:Int)-1:=IntWalk.i64_in _ ⟨by omega,by omega⟩
     have e7:(j:Int)<(n:Int):=by omega
     have e8:j<n:=by omega
     have e9:j-1<n:=by omega
     obtain ⟨c0,f0⟩:=hu.cell (k:=j) (by omega)
     obtain ⟨c1,f1⟩:=hu.cell (k:=j-1) (by omega)
     have SW:=Lib.hid (hu.swap (i:=j) (j:=j-1) (by omega) (by omega))
     have hne:¬j=j-1:=by omega
     have hne2:¬j-1=j:=by omega
     generalize ys[j]?.getD 0=x at *
     generalize ys[j-1]?.getD 0=y at *
     obtain ⟨q,hq⟩:=less_some x y
     have HQ:=Lib.hid hq
     clear hu hq
     cases q with
     | true=>
      go_wp2_with fail
      go_quiet ((go_at_call 146;exact q_same (HQ.out _)))
      go_wp2_with fail
      go_region
      all_goals
       go_wp2_with fail
       go_roundw
       case rel=>exact ⟨j-1,by omega,by omega,by go_num,Srt.trans HP.out.1 HP.out.2.2 (SW.out.drewN _)⟩
       case measure=>simp [intOf];omega
     | false=>
      go_wp2_with fail
      go_quiet ((go_at_call 146;exact q_same (HQ.out _)))
      go_wp2_with fail
      go_roundw
      case rel=>exact ⟨i+1,by omega,by omega,by go_num,Srt.drewN ⟨ys,HP.out.1,HP.out.2.1,HP.out.2.2⟩ _⟩
      case measure=>simp [intOf];omega
    ·have e2:¬(a:Int)<(j:Int):=by omega
     have e3:decide (a<j)=false:=by simpa using hja
     clear hu
     go_wp2_with fail
     go_quiet (fail)
     go_wp2_with fail
     go_roundw
     case rel=>exact ⟨i+1,by omega,by omega,by go_num,Srt.drewN ⟨ys,HP.out.1,HP.out.2.1,HP.out.2.2⟩ _⟩
     case measure=>simp [intOf];omega
  ·have e1:¬(i:Int)<(b:Int):=by omega
   go_wp2_with fail
   go_end0
   exact ⟨rfl,HS.out⟩
end
section
open Go Go.RowKit
theorem q_sameA {P:Program} {f:FuncId} {args:Array Value} {w:World} {n a:Nat} {v:Value}
  (h:Calls P f args (w.drewN (a+n)) fun e w'=>e = .returned v∧w.drewN (a+n)=w'):Calls P f args (w.drewN (a+n)) fun e w''=>e = .returned v∧∃m,w''=w.drewN (a+m):=
 h.mono fun _ _ ⟨he,hm⟩=>⟨he,n,hm.symm⟩
theorem wrapN (k:Int) (h0 : -4000000000≤k) (h1:k≤4000000000000):IntKind.i64.wrap k=k:=IntWalk.i64_in _ ⟨by omega,by omega⟩
set_option maxRecDepth 100000 in
set_option maxHeartbeats 8000000 in
theorem rev_any (g n c a b:Nat) (xs:List Int) (w:World) (h:U32At w g n c xs) (hab:a≤b) (hb:b≤n) (hn:n≤1000000000) :
  Calls Tryz.prog 144 #[.slice (some ⟨g,0,none⟩) n c,.int .i64 (a:Nat),.int .i64 (b:Nat)] w fun e w'=>e = .returned (.tuple #[])∧Srt w g n c xs w':=by
 have H:=Lib.hid h
 clear h
 go_enter Tryz.func144,Tryz.ntmps144
 go_wp2_with fail
 go_loopw [6,7] (fun vi vj wr=>∃(i:Nat) (j:Int),a≤i∧i≤b∧ -1≤j∧j<(b:Int)∧vi = .int .i64 (i:Nat)∧vj = .int .i64 j∧Srt w g n c xs wr) (fun vi _ _=>b+1-(intOf vi).toNat)
 case atStart=>exact ⟨a,(b:Int)-1,by omega,by omega,by omega,by omega,rfl,rfl,Srt.refl H.out⟩
 case round=>
  obtain ⟨i,j,hi1,hi2,hj1,hj2,rfl,rfl,ys,hp,hu,hc⟩:=hrel
  have HP:=Lib.hid (And.intro hp (And.intro hu hc))
  clear hp hc
  by_cases hij:(i:Int)<j
  ·obtain ⟨m,rfl⟩:∃m:Nat,j=(m:Int):=⟨j.toNat,by omega⟩
   have e1:(m:Int)<(n:Int):=by omega
   have e2:(i:Int)<(n:Int):=by omega
   have e3:m<n:=by omega
   have e4:i<n:=by omega
   obtain ⟨c0,f0⟩:=hu.cell (k:=i) (by omega)
   obtain ⟨c1,f1⟩:=hu.cell (k:=m) (by omega)
   have SW:=Lib.hid (hu.swap (i:=i) (j:=m) (by omega) (by omega))
   have hne:¬i=m:=by omega
   have hne2:¬m=i:=by omega
   generalize ys[i]?.getD 0=x at *
   generalize ys[m]?.getD 0=y at *
   clear hu
   go_wp2_with fail
   go_region
   all_goals
    go_wp2_with fail
    go_roundw
    case rel=>exact ⟨i+1,(m:Int)-1,by omega,by omega,by omega,by omega,by go_num,rfl,Srt.trans HP.out.1 HP.out.2.2 (by first |exact SW.out.drewN 1|exact SW.out)⟩
    case measure=>simp [intOf];omega
  ·have e1:¬(i:Int)<j:=hij
   clear hu
   go_wp2_with fail
   go_end0
   exact ⟨rfl,ys,HP.out.1,HP.out.2.1,HP.out.2.2⟩
set_option maxRecDepth 100000 in
set_option maxHeartbeats 8000000 in
theorem sift_any (g n c lo hi first:Nat) (xs:List Int) (w:World) (h:U32At w g n c xs) (hlo:lo≤hi) (hhi:first+hi≤n) (hn:n≤1000000000) :
  Calls Tryz.prog 151 #[.slice (some ⟨g,0,none⟩) n c,.int .i64 (lo:Nat),.int .i64 (hi:Nat),.int .i64 (first:Nat)] w fun e w'=>e = .returned (.tuple #[])∧Srt w g n c xs w':=by
 have H:=Lib.hid h
 clear h
 go_enter Tryz.func151,Tryz.ntmps151
 go_wp2_with fail
 go_loopw [8] (fun vr wr=>∃r:Nat,r≤hi∧vr = .int .i64 (r:Nat)∧Srt w g n c xs wr) (fun vr _=>hi-(intOf vr).toNat)
 case atStart=>exact ⟨lo,hlo,rfl,Srt.refl H.out⟩
 case round=>
  obtain ⟨r,hr,rfl,ys,hp,hu,hc⟩:=hrel
  have HP:=Lib.hid (And.intro hp (And.intro hu hc))
  clear hp hc
  have v3:=wrapN (2*(r:Int)) (by omega) (by omega)
  have v4:=wrapN (2*(r:Int)+1) (by omega) (by omega)
  have v5:=wrapN (2*(r:Int)+1+1) (by omega) (by omega)
  by_cases hch:2*r+1<hi
  ·have e0:¬(hi:Int)≤2*(r:Int)+1:=by omega
   have b1:(first:Int)+(r:Int)<(n:Int):=by omega
   have b3:(0:Int)≤(first:Int)+(r:Int):=by omega
   have b5:((first:Int)+(r:Int)).toNat=first+r:=by omega
   have v1:=wrapN ((first:Int)+(r:Int)) (by omega) (by omega)
   have v6:=wrapN ((first:Int)+(2*(r:Int)+1)) (by omega) (by omega)
   have b7:(0:Int)≤(first:Int)+(2*(r:Int)+1):=by omega
   have b8:(first:Int)+(2*(r:Int)+1)<(n:Int):=by omega
   have b9:((first:Int)+(2*(r:Int)+1)).toNat=first+(2*r+1):=by omega
   obtain ⟨c0,f0⟩:=hu.cell (k:=first+r) (by omega)
   obtain ⟨c1,f1⟩:=hu.cell (k:=first+(2*r+1)) (by omega)
   have SW1:=Lib.hid (hu.swap (i:=first+r) (j:=first+(2*r+1)) (by omega) (by omega))
   have n1:¬first+r=first+(2*r+1):=by omega
   have n2:¬first+(2*r+1)=first+r:=by omega
   generalize hx0:ys[first+r]?.getD 0=x at *
   generalize hx1:ys[first+(2*r+1)]?.getD 0=y at *
   have HX0:=Lib.hid hx0
   clear hx0 hx1
   obtain ⟨q2,hq2⟩:=less_some x y
   have HQ2:=Lib.hid hq2
   clear hq2
   by_cases hc2:2*r+2<hi
   ·have e2:2*(r:Int)+1+1<(hi:Int):=by omega
    have u6:=wrapN ((first:Int)+(2*(r:Int)+1)+1) (by omega) (by omega)
    have u7:(0:Int)≤(first:Int)+(2*(r:Int)+1)+1:=by omega
    have u8:(first:Int)+(2*(r:Int)+1)+1<(n:Int):=by omega
    have u9:((first:Int)+(2*(r:Int)+1)+1).toNat=first+(2*r+2):=by omega
    have t6:=wrapN ((first:Int)+(2*(r:Int)+1+1)) (by omega) (by omega)
    have t7:(0:Int)≤(first:Int)+(2*(r:Int)+1+1):=by omega
    have t8:(first:Int)+(2*(r:Int)+1+1)<(n:Int):=by omega
    have t9:((first:Int)+(2*(r:Int)+1+1)).toNat=first+(2*r+2):=by omega
    obtain ⟨c2,f2⟩:=hu.cell (k:=first+(2*r+2)) (by omega)
    have SW2:=Lib.hid (hu.swap (i:=first+r) (j:=first+(2*r+2)) (by omega) (by omega))
    rw [HX0.out] at SW2
    have n3:¬first+r=first+(2*r+2):=by omega
    have n4:¬first+(2*r+2)=first+r:=by omega
    generalize ys[first+(2*r+2)]?.getD 0=z at *
    obtain ⟨q1,hq1⟩:=less_some y z
    obtain ⟨q3,hq3⟩:=less_some x z
    have HQ1:=Lib.hid hq1
    have HQ3:=Lib.hid hq3
    clear hu hq1 hq3
    cases q1 with
    | true=>
     go_wp2_with fail
     go_quiet ((go_at_call 146;exact q_same (HQ1.out _)))
     go_wp2_with fail
     cases q3 with
     | true=>
      go_quiet ((go_at_call 146;first |exact q_sameA (HQ3.out _)|exact q_same (HQ3.out _)))
      go_wp2_with fail
      go_region
      all_goals
       go_wp2_with fail
       go_roundw
       case rel=>exact ⟨2*r+2,by omega,by go_num,Srt.trans HP.out.1 HP.out.2.2 (SW2.out.drewN _)⟩
       case measure=>simp [intOf];omega
     | false=>
      go_quiet ((go_at_call 146;first |exact q_sameA (HQ3.out _)|exact q_same (HQ3.out _)))
      go_wp2_with fail
      exact bodyPost_ret (results_none rfl _ _ _) rfl ⟨rfl,(Srt.drewN (Srt.drewN ⟨ys,HP.out.1,HP.out.2.1,HP.out.2.2⟩ _) _)⟩
    | false=>
     go_wp2_with fail
     go_quiet ((go_at_call 146;exact q_same (HQ1.out _)))
     go_wp2_with fail
     cases q2 with
     | true=>
      go_quiet ((go_at_call 146;first |exact q_sameA (HQ2.out _)|exact q_same (HQ2.out _)))
      go_wp2_with fail
      go_region
      all_goals
       go_wp2_with fail
       go_roundw
       case rel=>exact ⟨2*r+1,by omega,by go_num,Srt.trans HP.out.1 HP.out.2.2 (SW1.out.drewN _)⟩
       case measure=>simp [intOf];omega
     | false=>
      go_quiet ((go_at_call 146;first |exact q_sameA (HQ2.out _)|exact q_same (HQ2.out _)))
      go_wp2_with fail
      exact bodyPost_ret (results_none rfl _ _ _) rfl ⟨rfl,(Srt.drewN (Srt.drewN ⟨ys,HP.out.1,HP.out.2.1,HP.out.2.2⟩ _) _)⟩
   ·have e2:decide (2*(r:Int)+1+1<(hi:Int))=false:=by simp;omega
    clear hu
    go_wp2_with fail
    go_quiet (fail)
    go_wp2_with fail
    cases q2 with
    | true=>
     go_quiet ((go_at_call 146;first |exact q_sameA (HQ2.out _)|exact q_same (HQ2.out _)))
     go_wp2_with fail
     go_region
     all_goals
      go_wp2_with fail
      go_roundw
      case rel=>exact ⟨2*r+1,by omega,by go_num,Srt.trans HP.out.1 HP.out.2.2 (SW1.out.drewN _)⟩
      case measure=>simp [intOf];omega
    | false=>
     go_quiet ((go_at_call 146;first |exact q_sameA (HQ2.out _)|exact q_same (HQ2.out _)))
     go_wp2_with fail
     exact bodyPost_ret (results_none rfl _ _ _) rfl ⟨rfl,(Srt.drewN (Srt.drewN ⟨ys,HP.out.1,HP.out.2.1,HP.out.2.2⟩ _) _)⟩
  ·have e0:(hi:Int)≤2*(r:Int)+1:=by omega
   clear hu
   go_wp2_with fail
   go_end0
   exact ⟨rfl,ys,HP.out.1,HP.out.2.1,HP.out.2.2⟩
set_option maxRecDepth 100000 in
set_option maxHeartbeats 8000000 in
theorem heap_any (g n c a b:Nat) (xs:List Int) (w:World) (h:U32At w g n c xs) (hab:a≤b) (hb:b≤n) (hn:n≤1000000000) :
  Calls Tryz.prog 141 #[.slice (some ⟨g,0,none⟩) n c,.int .i64 (a:Nat),.int .i64 (b:Nat)] w fun e w'=>e = .returned (.tuple #[])∧Srt w g n c xs w':=by
 have H:=Lib.hid h
 clear h
 obtain ⟨m,hm⟩:∃m,b=a+m:=⟨b-a,by omega⟩
 have d1:(b:Int)-(a:Int)=(m:Int):=by omega
 have hbm:a+m≤b:=by omega
 clear hm
 have d3:=wrapN ((m:Int)-1) (by omega) (by omega)
 obtain ⟨k,hk⟩:∃k:Nat,((m:Int)-1).tdiv 2=(k:Int)∧k≤m:=by
  by_cases h0:m=0
  ·exact ⟨0,by subst h0;rfl,by omega⟩
  ·refine ⟨(m-1)/2,?_,by omega⟩
   rw [show ((m:Int)-1)=((m-1:Nat):Int) by omega]
   rfl
 have HK:=Lib.hid hk
 have hk1:=hk.1
 have hk2:=hk.2
 clear hk
 go_enter Tryz.func141,Tryz.ntmps141
 have HSF:=Lib.hid (fun (lo hi:Nat) (ys:List Int) W (h:U32At W g n c ys) (h1:lo≤hi) (h2:hi≤m)=>sift_any g n c lo hi a ys W h h1 (by omega) hn)
 go_wp2_with fail
 go_loopw [9] (fun vi wr=>∃i:Int, -1≤i∧i≤(m:Int)∧vi = .int .i64 i∧Srt w g n c xs wr) (fun vi _=>(intOf vi+1).toNat)
 case atStart=>exact ⟨k,by omega,by omega,rfl,Srt.refl H.out⟩
 case round=>
  obtain ⟨i,hi1,hi2,rfl,ys,hp,hu,hc⟩:=hrel
  have HP:=Lib.hid (And.intro hp (And.intro hu hc))
  clear hp hc
  by_cases h0:0≤i
  ·obtain ⟨t,rfl⟩:∃t:Nat,i=(t:Int):=⟨i.toNat,by omega⟩
   have HC:=Lib.hid (HSF.out t m ys wr hu (by omega) (Nat.le_refl _))
   clear hu
   go_wp2_with fail
   refine HC.out.mono ?_
   rintro e w1 ⟨rfl,h1⟩
   have HS1:=Lib.hid (Srt.trans HP.out.1 HP.out.2.2 h1)
   clear h1
   go_wp2_with fail
   go_roundw
   case rel=>exact ⟨(t:Int)-1,by omega,by omega,rfl,HS1.out⟩
   case measure=>simp [intOf]<;>omega
  ·have h0':¬(0≤i):=h0
   clear hu
   go_wp2_with fail
   obtain ⟨wo,hwo⟩:∃wo:World,wo=wr:=⟨_,rfl⟩
   rw [← hwo] at HP
   subst hwo
   go_loopw [10] (fun vi wq=>∃i:Int, -1≤i∧i<(m:Int)∧vi = .int .i64 i∧Srt w g n c xs wq) (fun vi _=>(intOf vi+1).toNat)
   case atStart=>exact ⟨(m:Int)-1,by omega,by omega,rfl,ys,HP.out.1,HP.out.2.1,HP.out.2.2⟩
   case round=>
    obtain ⟨i,hi1,hi2,rfl,zs,hp,hu,hc⟩:=hrel
    have HP2:=Lib.hid (And.intro hp (And.intro hu hc))
    clear hp hc
    by_cases h0:0≤i
    ·obtain ⟨t,rfl⟩:∃t:Nat,i=(t:Int):=⟨i.toNat,by omega⟩
     have b1:(a:Int)+(t:Int)<(n:Int):=by omega
     have b2:(0:Int)≤(a:Int)+(t:Int):=by omega
     have b3:((a:Int)+(t:Int)).toNat=a+t:=by omega
     have b4:(a:Int)<(n:Int):=by omega
     have b5:=wrapN ((a:Int)+(t:Int)) (by omega) (by omega)
     obtain ⟨c0,f0⟩:=hu.cell (k:=a) (by omega)
     obtain ⟨c1,f1⟩:=hu.cell (k:=a+t) (by omega)
     have SW:=Lib.hid (hu.swap (i:=a) (j:=a+t) (by omega) (by omega))
     obtain ⟨x,hx⟩:∃x,x=zs[a]?.getD 0:=⟨_,rfl⟩
     obtain ⟨y,hy⟩:∃y,y=zs[a+t]?.getD 0:=⟨_,rfl⟩
     rw [← hx] at c0 SW
     rw [← hy] at c1 SW
     obtain ⟨z,hz⟩:=cell?_setCell_some (w:=wr) (p:=⟨g,a,none⟩) (x:= .int .u32 y) (q:=⟨g,a+t,none⟩) (v:= .int .u32 y) c1
     clear hu hx hy
     go_wp2_with fail
     go_region
     all_goals
      have hsw:=Srt.trans HP2.out.1 HP2.out.2.2 (SW.out.drewN 1)
      obtain ⟨vs,hp3,hu3,hc3⟩:=hsw
      have HP3:=Lib.hid (And.intro hp3 (And.intro hu3 hc3))
      have HC:=Lib.hid (HSF.out 0 t vs _ hu3 (by omega) (by omega))
      clear hp3 hu3 hc3
      go_wp2_with fail
      refine HC.out.mono ?_
      rintro e w1 ⟨rfl,h1⟩
      have HS1:=Lib.hid (Srt.trans HP3.out.1 HP3.out.2.2 h1)
      clear h1
      go_wp2_with fail
      go_roundw
      case rel=>exact ⟨(t:Int)-1,by omega,by omega,rfl,HS1.out⟩
      case measure=>simp [intOf]<;>omega
    ·have h0':¬(0≤i):=h0
     clear hu
     go_wp2_with fail
     go_end0
     exact ⟨rfl,zs,HP2.out.1,HP2.out.2.1,HP2.out.2.2⟩
end
section
open Go Go.RowKit
theorem wrap_u64n (x:Nat) (h:x<18446744073709551616):IntKind.u64.wrap (x:Int)=(x:Int):=by
 simp [IntKind.wrap,IntKind.signed,IntKind.bits]
 omega
theorem and_lowU (y:Int) (n:Nat) (hn:n≤32):bits .and .u64 y (((2^n:Nat):Int)-1)=y%((2^n:Nat):Int):=by
 have hp:2^n≤4294967296:=Nat.pow_le_pow_right (n:=2) (by omega) (show n≤32 from hn)
 have hp1:=Nat.two_pow_pos n
 show IntKind.u64.wrap ((BitVec.ofInt 64 y &&& BitVec.ofInt 64 (((2^n:Nat):Int)-1)).toNat:Int)=_
 have e1:(((2^n:Nat):Int)-1)=((2^n-1:Nat):Int):=by omega
 have e2:(BitVec.ofInt 64 ((2^n-1:Nat):Int)).toNat=2^n-1:=by
  rw [BitVec.toNat_ofInt]
  have:(((2^n-1:Nat):Int)%((2^64:Nat):Int))=((2^n-1:Nat):Int):=Int.emod_eq_of_lt (by omega) (by omega)
  rw [this]
  rfl
 rw [BitVec.toNat_and,e1,e2,Nat.and_two_pow_sub_one_eq_mod,BitVec.toNat_ofInt]
 have h1:(y%((2^64:Nat):Int)).toNat%2^n=(y%((2^n:Nat):Int)).toNat:=by
  have a1:0≤y%((2^64:Nat):Int):=Int.emod_nonneg _ (by decide)
  have a2:0≤y%((2^n:Nat):Int):=Int.emod_nonneg _ (by omega)
  apply Int.ofNat.inj
  show (((y%((2^64:Nat):Int)).toNat%2^n:Nat):Int)=((y%((2^n:Nat):Int)).toNat:Int)
  rw [Int.natCast_emod,Int.toNat_of_nonneg a1,Int.toNat_of_nonneg a2]
  exact Int.emod_emod_of_dvd y (Int.natCast_dvd_natCast.2 (Nat.pow_dvd_pow 2 (by omega)))
 have h2:(y%((2^n:Nat):Int)).toNat<2^n:=by
  have:=Int.emod_lt_of_pos y (show (0:Int)<((2^n:Nat):Int) by omega)
  omega
 rw [h1,wrap_u64n _ (by omega),Int.toNat_of_nonneg (Int.emod_nonneg _ (by omega))]
theorem wp_genS {P:Program} {c:Code} {Q:Exit→Act→World→Prop} {a:Act} {w:World} (R:World→Prop) (h:R w) (k:∀W,R W→c.wp P Q a W):c.wp P Q a w:=k w h
def RndAt (w:World) (p:Nat):Prop:=∃v:Int,w.cell? ⟨p,0,none⟩=some (.int .u64 v)∧w.frozen? ⟨p,0,none⟩=false
def SomeU (e:Ending):Prop:=∃r:Int,e = .returned (.int .u64 r)
set_option maxRecDepth 100000 in
set_option maxHeartbeats 8000000 in
theorem xor_any (p:Nat) (w:World) (h:RndAt w p):Calls Tryz.prog 153 #[.pointer (some ⟨p,0,none⟩)] w fun e w'=>SomeU e∧RndAt w' p∧Chg [p] w w':=by
 obtain ⟨v,c0,f0⟩:=h
 go_enter Tryz.func153,Tryz.ntmps153
 go_wp2_with fail
 go_region
 all_goals
  go_wp2_with fail
  refine wp_genS (fun W=>RndAt W p∧Chg [p] w W) ?_ ?_
  ·exact ⟨⟨_,World.cell?_setCell_same _ _ _ c0,by simp [f0]⟩,((Chg.refl _ _).setCell (.inl (by simp)) _).drewN 1⟩
  rintro W1 ⟨⟨v1,c1,f1⟩,hc1⟩
  clear c0 f0
  go_wp2_with fail
  go_region
  all_goals
   go_wp2_with fail
   refine wp_genS (fun W=>RndAt W p∧Chg [p] w W) ?_ ?_
   ·exact ⟨⟨_,World.cell?_setCell_same _ _ _ c1,by simp [f1]⟩,(hc1.setCell (.inl (by simp)) _).drewN 1⟩
   rintro W2 ⟨⟨v2,c2,f2⟩,hc2⟩
   clear c1 f1 hc1
   go_wp2_with fail
   go_region
   all_goals
    go_wp2_with fail
    go_ret
    exact ⟨⟨_,rfl⟩,⟨_,World.cell?_setCell_same _ _ _ c2,by simp [f2]⟩,(hc2.setCell (.inl (by simp)) _).drewN 1⟩
theorem bitLen_low (l:Nat) (h:1≤l) (hl:l<2^32):l<2^Lib.bitLen l∧2^Lib.bitLen l≤2*l∧Lib.bitLen l≤32:=by
 have h32:Lib.bitLen l≤32:=Lib.bitLen_le l 32 (by omega) hl
 have up:l<2^Lib.bitLen l:=by
  have:∀(f x:Nat),x<2^f→x<2^(Lib.bitLenAux f x):=by
   intro f
   induction f with
   | zero=>intro x hx;simpa [Lib.bitLenAux] using hx
   | succ f ih=>
    intro x hx
    rw [Lib.bitLenAux]
    split
    ·rename_i h0;simp_all
    ·have:=ih (x/2) (by rw [Nat.pow_succ] at hx;omega)
     rw [Nat.add_comm,Nat.pow_succ]
     omega
  exact this 64 l (Nat.lt_of_lt_of_le hl (Nat.pow_le_pow_right (by omega) (by omega)))
 refine ⟨up,?_,h32⟩
 rcases Nat.eq_zero_or_pos (Lib.bitLen l) with h0|h0
 ·rw [h0] at up;simp at up;omega
 ·rcases Nat.lt_or_ge l (2^(Lib.bitLen l-1)) with h1|h1
  ·have:=Lib.bitLen_le l (Lib.bitLen l-1) (by omega) h1
   omega
  ·have:2^Lib.bitLen l=2*2^(Lib.bitLen l-1):=by
    conv=>lhs;rw [show Lib.bitLen l=(Lib.bitLen l-1)+1 by omega]
    rw [Nat.pow_succ,Nat.mul_comm]
   omega
set_option maxRecDepth 100000 in
set_option maxHeartbeats 8000000 in
theorem npot_any (l:Nat) (h:1≤l) (hl:l≤1000000000) (w:World):Calls Tryz.prog 152 #[.int .i64 (l:Nat)] w fun e w'=>e = .returned (.int .u64 (2^Lib.bitLen l:Nat))∧w=w':=by
 have HL:=Lib.hid (fun W=>Tryz.bits_Len (l:Nat) W (by omega) (by omega))
 rw [show ((l:Nat):Int).toNat=l from rfl] at HL
 obtain ⟨h1,h2,h3⟩:=bitLen_low l h (by omega)
 generalize Lib.bitLen l=k at *
 have hm:min k 64=k:=by omega
 have hw:IntKind.u64.wrap ((2:Int)^k)=((2^k:Nat):Int):=by
  rw [show ((2:Int)^k)=((2^k:Nat):Int) by simp]
  exact wrap_u64n _ (by omega)
 have hc:IntKind.u64.wrap (l:Int)=(l:Int):=wrap_u64n _ (by omega)
 go_enter Tryz.func152,Tryz.ntmps152
 go_wp2_with fail
 refine (HL.out _).mono ?_
 rintro e w1 ⟨rfl,rfl⟩
 go_wp2_with fail
 go_ret
 exact ⟨by simp,rfl⟩
set_option maxRecDepth 100000 in
set_option maxHeartbeats 16000000 in
theorem break_any (g n c a b:Nat) (xs:List Int) (w:World) (h:U32At w g n c xs) (hab:a+12<b) (hb:b≤n) (hn:n≤1000000000) (hg:g<w.heap.size) :
  Calls Tryz.prog 142 #[.slice (some ⟨g,0,none⟩) n c,.int .i64 (a:Nat),.int .i64 (b:Nat)] w fun e w'=>e = .returned (.tuple #[])∧Srt w g n c xs w':=by
 obtain ⟨l,hl⟩:∃l,l=b-a:=⟨_,rfl⟩
 have l1:(b:Int)-(a:Int)=(l:Int):=by omega
 have l2:a+l≤b:=by omega
 have l3:b≤a+l:=by omega
 have l4:12<l:=by omega
 have l5:l≤1000000000:=by omega
 clear hl
 obtain ⟨d,hd⟩:∃d,d=l/4:=⟨_,rfl⟩
 have d1:(l:Int)/4=(d:Int):=by omega
 have d2:4*d≤l:=by omega
 have d3:l<4*d+4:=by omega
 clear hd
 obtain ⟨m1,m2,m3⟩:=bitLen_low l (by omega) (by omega)
 have HN:=Lib.hid (fun W=>npot_any l (by omega) l5 W)
 have HAND:=Lib.hid (fun y=>and_lowU y (Lib.bitLen l) m3)
 obtain ⟨M,hM⟩:∃M:Nat,M=2^Lib.bitLen l:=⟨_,rfl⟩
 rw [← hM] at HN HAND m1 m2
 clear m3 hM
 have hw1:IntKind.u64.wrap ((M:Int)-1)=(M:Int)-1:=by
  rw [show (M:Int)-1=((M-1:Nat):Int) by omega]
  exact wrap_u64n _ (by omega)
 have hcl:IntKind.u64.wrap (l:Int)=(l:Int):=wrap_u64n _ (by omega)
 have e1:=wrapN ((d:Int)*2) (by omega) (by omega)
 have e2:=wrapN ((a:Int)+(d:Int)*2) (by omega) (by omega)
 have e3:=wrapN ((a:Int)+(d:Int)*2-1) (by omega) (by omega)
 have e4:=wrapN ((a:Int)+(d:Int)*2+1) (by omega) (by omega)
 have h8:(8:Int)≤(l:Int):=by omega
 obtain ⟨W,hW⟩:∃W,W=w.alloc (.cells #[.int .u64 (l:Nat)] 232):=⟨_,rfl⟩
 have hr0:RndAt W w.heap.size:=⟨l,by rw [hW];simp,by rw [hW];simp⟩
 have hu0:U32At W g n c xs:=by rw [hW];exact OwnF.alloc h _
 have hc0:Chg [g] w W:=by rw [hW];exact (Chg.refl _ _).alloc _
 have hne:g≠w.heap.size:=by omega
 have HU:=Lib.hid (And.intro hu0 (And.intro hr0 hc0))
 have HWW:=Lib.hid hW
 have HX:=Lib.hid (fun W (hr:RndAt W w.heap.size)=>xor_any w.heap.size W hr)
 clear h hr0 hu0 hc0
 go_enter Tryz.func142,Tryz.ntmps142
 go_wp2_with fail
 rw [← HWW.out]
 clear hW
 refine (HN.out _).mono ?_
 rintro e w1 ⟨rfl,rfl⟩
 go_wp2_with fail
 go_loopw [9] (fun vi wr=>∃i:Nat,a+d*2≤i+1∧i≤a+d*2+2∧vi = .int .i64 (i:Nat)∧RndAt wr w.heap.size∧Srt w g n c xs wr) (fun vi _=>a+d*2+2-(intOf vi).toNat)
 case atStart=>exact ⟨a+d*2-1,by omega,by omega,by go_num,HU.out.2.1,xs,.refl _,HU.out.1,HU.out.2.2⟩
 case round=>
  obtain ⟨i,i1,i2,rfl,hr,ys,hp,hu,hc⟩:=hrel
  have HP:=Lib.hid (And.intro hp (And.intro hu hc))
  have HXR:=Lib.hid (HX.out wr hr)
  have HR:=Lib.hid hr
  clear hp hc hr
  by_cases hi:i≤a+d*2+1
  ·have hii:(i:Int)≤(a:Int)+(d:Int)*2+1:=by omega
   clear hu
   go_wp2_with fail
   refine HXR.out.mono ?_
   rintro e w2 ⟨⟨r,rfl⟩,hr2,hc2⟩
   have hand:=HAND.out r
   obtain ⟨o,ho⟩:∃o:Nat,r%(M:Int)=(o:Int):=⟨(r%(M:Int)).toNat,by have:=Int.emod_nonneg r (show (M:Int)≠0 by omega);omega⟩
   have hoM:o<M:=by have:=Int.emod_lt_of_pos r (show (0:Int)<(M:Int) by omega);omega
   rw [ho] at hand
   have hco:IntKind.i64.wrap (o:Int)=(o:Int):=IntWalk.i64_in _ ⟨by omega,by omega⟩
   have hu2:U32At w2 g n c ys:=OwnF.chg HP.out.2.1 hc2 (fun k hk=>by
    have:k=g:=by
     have:=mem_blk.1 hk
     simp [Value.ownBlock] at this
     exact this.symm
    subst this
    simpa using hne)
   have hc02:Chg [g] w w2:=HP.out.2.2.trans hc2 (fun x hx=> .inr (by simp at hx;omega))
   have HP2:=Lib.hid (And.intro HP.out.1 (And.intro hu2 hc02))
   have HR2:=Lib.hid hr2
   clear ho hr2 hc2 hc02
   by_cases hol:l≤o
   ·obtain ⟨o2,ho2⟩:∃o2,o2=o-l:=⟨_,rfl⟩
    have t0:(l:Int)≤(o:Int):=by omega
    have t1:(o:Int)-(l:Int)=(o2:Int):=by omega
    have t2:o2<l:=by omega
    clear ho2
    have s1:(i:Int)<(n:Int):=by omega
    have s2:(a:Int)+(o2:Int)<(n:Int):=by omega
    have s3:i<n:=by omega
    have s4:a+o2<n:=by omega
    have s5:((a:Int)+(o2:Int)).toNat=a+o2:=by omega
    have s6:(0:Int)≤(a:Int)+(o2:Int):=by omega
    have s7:=wrapN ((a:Int)+(o2:Int)) (by omega) (by omega)
    obtain ⟨c0,f0⟩:=hu2.cell (k:=i) (by omega)
    obtain ⟨c1,f1⟩:=hu2.cell (k:=a+o2) (by omega)
    have SW:=Lib.hid (hu2.swap (i:=i) (j:=a+o2) (by omega) (by omega))
    obtain ⟨x,hx⟩:∃x,x=ys[i]?.getD 0:=⟨_,rfl⟩
    obtain ⟨y,hy⟩:∃y,y=ys[a+o2]?.getD 0:=⟨_,rfl⟩
    rw [← hx] at c0 SW
    rw [← hy] at c1 SW
    obtain ⟨z,hz⟩:=cell?_setCell_some (w:=w2) (p:=⟨g,i,none⟩) (x:= .int .u32 y) (q:=⟨g,a+o2,none⟩) (v:= .int .u32 y) c1
    have RN:∀(p q:Addr) (u v:Value),p.block=g→q.block=g→RndAt ((w2.setCell p u).setCell q v) w.heap.size:=fun p q u v hp hq=>by
     obtain ⟨rv,r1,r2⟩:=HR2.out
     refine ⟨rv,?_,by simp [r2]⟩
     rw [World.cell?_setCell_other _ _ _ _ (fun e=>hne (by rw [← hq,e])),World.cell?_setCell_other _ _ _ _ (fun e=>hne (by rw [← hp,e]))]
     exact r1
    have HRN:=Lib.hid RN
    clear hu2 hx hy RN
    go_wp2_with fail
    go_region
    all_goals
     go_wp2_with fail
     go_roundw
     case rel=>exact ⟨i+1,by omega,by omega,by go_num,HRN.out ⟨g,i,none⟩ ⟨g,a+o2,none⟩ _ _ rfl rfl,Srt.trans HP2.out.1 HP2.out.2.2 (SW.out.drewN 1)⟩
     case measure=>simp [intOf]<;>omega
   ·have t0:¬(l:Int)≤(o:Int):=by omega
    have t2:o<l:=by omega
    have s1:(i:Int)<(n:Int):=by omega
    have s2:(a:Int)+(o:Int)<(n:Int):=by omega
    have s3:i<n:=by omega
    have s4:a+o<n:=by omega
    have s5:((a:Int)+(o:Int)).toNat=a+o:=by omega
    have s6:(0:Int)≤(a:Int)+(o:Int):=by omega
    have s7:=wrapN ((a:Int)+(o:Int)) (by omega) (by omega)
    obtain ⟨c0,f0⟩:=hu2.cell (k:=i) (by omega)
    obtain ⟨c1,f1⟩:=hu2.cell (k:=a+o) (by omega)
    have SW:=Lib.hid (hu2.swap (i:=i) (j:=a+o) (by omega) (by omega))
    obtain ⟨x,hx⟩:∃x,x=ys[i]?.getD 0:=⟨_,rfl⟩
    obtain ⟨y,hy⟩:∃y,y=ys[a+o]?.getD 0:=⟨_,rfl⟩
    rw [← hx] at c0 SW
    rw [← hy] at c1 SW
    obtain ⟨z,hz⟩:=cell?_setCell_some (w:=w2) (p:=⟨g,i,none⟩) (x:= .int .u32 y) (q:=⟨g,a+o,none⟩) (v:= .int .u32 y) c1
    have RN:∀(p q:Addr) (u v:Value),p.block=g→q.block=g→RndAt ((w2.setCell p u).setCell q v) w.heap.size:=fun p q u v hp hq=>by
     obtain ⟨rv,r1,r2⟩:=HR2.out
     refine ⟨rv,?_,by simp [r2]⟩
     rw [World.cell?_setCell_other _ _ _ _ (fun e=>hne (by rw [← hq,e])),World.cell?_setCell_other _ _ _ _ (fun e=>hne (by rw [← hp,e]))]
     exact r1
    have HRN:=Lib.hid RN
    clear hu2 hx hy RN
    go_wp2_with fail
    go_region
    all_goals
     go_wp2_with fail
     go_roundw
     case rel=>exact ⟨i+1,by omega,by omega,by go_num,HRN.out ⟨g,i,none⟩ ⟨g,a+o,none⟩ _ _ rfl rfl,Srt.trans HP2.out.1 HP2.out.2.2 (SW.out.drewN 1)⟩
     case measure=>simp [intOf]<;>omega
  ·have hii:¬(i:Int)≤(a:Int)+(d:Int)*2+1:=by omega
   clear hu
   go_wp2_with fail
   go_end0
   exact ⟨rfl,ys,HP.out.1,HP.out.2.1,HP.out.2.2⟩
end
end
end Go.Proofs.YtnlmlehcpngcgaaGreat
