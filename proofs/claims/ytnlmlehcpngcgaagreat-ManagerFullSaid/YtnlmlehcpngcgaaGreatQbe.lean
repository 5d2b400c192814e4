/- The library's sort of uint32: what it leaves is a permutation (3): the partitions. The library's sort of uint32: what it leaves is a permutation (4): insertion in part. The library's sort of uint32: what it leaves is a permutation (5): the pivot. The library's sort of uint32: what it leaves is a permutation (7): the whole. -/
import Derived.Test.YtnlmlehcpngcgaaGreatQbd
import Derived.Deep.DeepCutAuto
import Derived.Deep.CutBlock
namespace Go.Proofs.YtnlmlehcpngcgaaGreat
set_option linter.unusedSimpArgs false
set_option linter.unusedVariables false
section
section
open Go Go.RowKit
set_option maxRecDepth 100000 in
set_option maxHeartbeats 16000000 in
theorem part_any (g n c a b p:Nat) (xs:List Int) (w:World) (h:U32At w g n c xs) (hap:a≤p) (hpb:p<b) (hb:b≤n) (hn:n≤1000000000) :
  Calls Tryz.prog 148 #[.slice (some ⟨g,0,none⟩) n c,.int .i64 (a:Nat),.int .i64 (b:Nat),.int .i64 (p:Nat)] w fun e w'=>(∃ (m:Nat) (q:Bool),e = .returned (.tuple #[.int .i64 (m:Nat),.bool q])∧a≤m∧m<b)∧Srt w g n c xs w':=by
 obtain ⟨j0,rfl⟩:∃j0,b=j0+1:=⟨b-1,by omega⟩
 have jj:((j0+1:Nat):Int)-1=(j0:Int):=by omega
 have jj2:(j0:Int)+1-1=(j0:Int):=by omega
 obtain ⟨ys,hp,hu,hc⟩:=Srt.refl h
 have HP:=Lib.hid (And.intro hp (And.intro hu hc))
 clear hp hc h
 have s1:(a:Int)<(n:Int):=by omega
 have s2:(p:Int)<(n:Int):=by omega
 have s3:a<n:=by omega
 have s4:p<n:=by omega
 obtain ⟨c0,f0⟩:=hu.cell (k:=a) (by omega)
 obtain ⟨c1,f1⟩:=hu.cell (k:=p) (by omega)
 have SW:=Lib.hid (hu.swap (i:=a) (j:=p) (by omega) (by omega))
 obtain ⟨x,hx⟩:∃x,x=ys[a]?.getD 0:=⟨_,rfl⟩
 obtain ⟨y,hy⟩:∃y,y=ys[p]?.getD 0:=⟨_,rfl⟩
 rw [← hx] at c0 SW
 rw [← hy] at c1 SW
 obtain ⟨z,hz⟩:=cell?_setCell_some (w:=w) (p:=⟨g,a,none⟩) (x:= .int .u32 y) (q:=⟨g,p,none⟩) (v:= .int .u32 y) c1
 clear hu hx hy
 go_enter Tryz.func148,Tryz.ntmps148
 go_wp2_with fail
 go_region
 all_goals
  have HS:=Lib.hid (Srt.trans HP.out.1 HP.out.2.2 (SW.out.drewN 1))
  clear c0 c1 f0 f1 hz s1 s2 s3 s4
  clear SW HP
  obtain ⟨i,hi⟩:∃i,i=a+1:=⟨_,rfl⟩
  have hii:((a:Int)+1)=(i:Int):=by omega
  obtain ⟨j,hj⟩:∃j,j=j0:=⟨_,rfl⟩
  subst hj
  have b1:a+1≤i:=by omega
  have b2:i≤j+1:=by omega
  clear hi
  go_upto_block 0 with fail
  go_cut [10] (fun v wr=>∃t:Nat,i≤t∧t≤j+2∧v = .int .i64 (t:Nat)∧Srt w g n c xs wr)
  case first=>
   go_wp2_with fail
   go_loopw [10] (fun v wr=>∃t:Nat,i≤t∧t≤j+2∧v = .int .i64 (t:Nat)∧Srt w g n c xs wr) (fun v _=>(j+2-(intOf v).toNat))
   case atStart=>exact ⟨i,by omega,by omega,rfl,HS.out⟩
   case round=>
    obtain ⟨t,k1,k2,rfl,ys,hp,hu,hc⟩:=hrel
    have HP:=Lib.hid (And.intro hp (And.intro hu hc))
    clear hp hc
    by_cases hg:t≤j
    ·have g0:(t:Int)≤(j:Int):=by omega
     have g1:(t:Int)<(n:Int):=by omega
     have g2:t<n:=by omega
     have g3:(a:Int)<(n:Int):=by omega
     have g4:a<n:=by omega
     obtain ⟨c0,_⟩:=hu.cell (k:=t) (by omega)
     obtain ⟨c1,_⟩:=hu.cell (k:=a) (by omega)
     generalize hx0:ys[t]?.getD 0=x at *
     generalize hx1:ys[a]?.getD 0=y at *
     obtain ⟨q,hq⟩:=less_some x y
     have HQ:=Lib.hid hq
     clear hu hq hx0 hx1
     cases q with
     | true=>
      go_wp2_with fail
      go_quiet ((go_at_call 146;exact q_same (HQ.out _)))
      go_wp2_with fail
      go_roundw
      case rel=>exact ⟨t+1,by omega,by omega,by go_num,Srt.drewN ⟨ys,HP.out.1,HP.out.2.1,HP.out.2.2⟩ _⟩
      case measure=>simp [intOf]<;>omega
     | false=>
      go_wp2_with fail
      go_quiet ((go_at_call 146;exact q_same (HQ.out _)))
      go_wp2_with fail
      go_meet
      exact ⟨t,k1,k2,rfl,Srt.drewN ⟨ys,HP.out.1,HP.out.2.1,HP.out.2.2⟩ _⟩
    ·have g0:¬(t:Int)≤(j:Int):=by omega
     have g1:decide (t≤j)=false:=by simpa using hg
     clear hu
     go_wp2_with fail
     go_quiet (fail)
     go_wp2_with fail
     go_meet
     exact ⟨t,k1,k2,rfl,Srt.drewN ⟨ys,HP.out.1,HP.out.2.1,HP.out.2.2⟩ _⟩
  obtain ⟨t,k1,k2,rfl,hs⟩:=hcut
  have HS:=Lib.hid hs
  clear hs
  obtain ⟨i2,hi2⟩:∃i2,i2=t:=⟨_,rfl⟩
  subst hi2
  clear hii jj jj2
  obtain ⟨jb,hjb⟩:∃jb,jb=j:=⟨_,rfl⟩
  go_upto_block 2 with fail
  go_cut [11] (fun v wr=>∃t:Nat,a≤t∧t≤j∧v = .int .i64 (t:Nat)∧Srt w g n c xs wr)
  case first=>
   go_wp2_with fail
   go_loopw [11] (fun v wr=>∃t:Nat,a≤t∧t≤j∧v = .int .i64 (t:Nat)∧Srt w g n c xs wr) (fun v _=>(intOf v).toNat)
   case atStart=>exact ⟨j,by omega,by omega,rfl,HS.out⟩
   case round=>
    obtain ⟨t,k1,k2,rfl,ys,hp,hu,hc⟩:=hrel
    have HP:=Lib.hid (And.intro hp (And.intro hu hc))
    clear hp hc
    by_cases hg:i2≤t
    ·have g0:(i2:Int)≤(t:Int):=by omega
     have g1:(t:Int)<(n:Int):=by omega
     have g2:t<n:=by omega
     have g3:(a:Int)<(n:Int):=by omega
     have g4:a<n:=by omega
     obtain ⟨c0,_⟩:=hu.cell (k:=t) (by omega)
     obtain ⟨c1,_⟩:=hu.cell (k:=a) (by omega)
     generalize hx0:ys[t]?.getD 0=x at *
     generalize hx1:ys[a]?.getD 0=y at *
     obtain ⟨q,hq⟩:=less_some x y
     have HQ:=Lib.hid hq
     clear hu hq hx0 hx1
     cases q with
     | false=>
      go_wp2_with fail
      go_quiet ((go_at_call 146;exact q_same (HQ.out _)))
      go_wp2_with fail
      go_roundw
      case rel=>exact ⟨t-1,by omega,by omega,by go_num,Srt.drewN ⟨ys,HP.out.1,HP.out.2.1,HP.out.2.2⟩ _⟩
      case measure=>simp [intOf]<;>omega
     | true=>
      go_wp2_with fail
      go_quiet ((go_at_call 146;exact q_same (HQ.out _)))
      go_wp2_with fail
      go_meet
      exact ⟨t,k1,k2,rfl,Srt.drewN ⟨ys,HP.out.1,HP.out.2.1,HP.out.2.2⟩ _⟩
    ·have g0:¬(i2:Int)≤(t:Int):=by omega
     have g1:decide (i2≤t)=false:=by simpa using hg
     clear hu
     go_wp2_with fail
     go_quiet (fail)
     go_wp2_with fail
     go_meet
     exact ⟨t,k1,k2,rfl,Srt.drewN ⟨ys,HP.out.1,HP.out.2.1,HP.out.2.2⟩ _⟩
  obtain ⟨t,k1,k2,rfl,hs⟩:=hcut
  have HS:=Lib.hid hs
  clear hs
  obtain ⟨j2,hj2⟩:∃j2,j2=t:=⟨_,rfl⟩
  subst hj2
  obtain ⟨ys,hp,hu,hc⟩:=HS.out
  have HP:=Lib.hid (And.intro hp (And.intro hu hc))
  clear hp hc HS
  by_cases hij:j2<i2
  ·have t1:(j2:Int)<(i2:Int):=by omega
   have s1:(j2:Int)<(n:Int):=by omega
   have s2:(a:Int)<(n:Int):=by omega
   have s3:j2<n:=by omega
   have s4:a<n:=by omega
   obtain ⟨c0,f0⟩:=hu.cell (k:=j2) (by omega)
   obtain ⟨c1,f1⟩:=hu.cell (k:=a) (by omega)
   have SW:=Lib.hid (hu.swap (i:=j2) (j:=a) (by omega) (by omega))
   obtain ⟨x,hx⟩:∃x,x=ys[j2]?.getD 0:=⟨_,rfl⟩
   obtain ⟨y,hy⟩:∃y,y=ys[a]?.getD 0:=⟨_,rfl⟩
   rw [← hx] at c0 SW
   rw [← hy] at c1 SW
   obtain ⟨z,hz⟩:=cell?_setCell_some (w:=wc) (p:=⟨g,j2,none⟩) (x:= .int .u32 y) (q:=⟨g,a,none⟩) (v:= .int .u32 y) c1
   clear hu hx hy
   go_wp2_with fail
   go_region
   all_goals
    have HS:=Lib.hid (Srt.trans HP.out.1 HP.out.2.2 (SW.out.drewN 1))
    clear c0 c1 f0 f1 hz s1 s2 s3 s4 SW HP
    go_wp2_with fail
    exact bodyPost_ret (v:= .tuple #[.int .i64 (j2:Nat),.bool true]) (by simp [results,Tryz.results148,go_sem, *]) rfl ⟨⟨j2,_,rfl,by omega,by omega⟩,HS.out⟩
  ·have t1:¬(j2:Int)<(i2:Int):=by omega
   have s1:(i2:Int)<(n:Int):=by omega
   have s2:(j2:Int)<(n:Int):=by omega
   have s3:i2<n:=by omega
   have s4:j2<n:=by omega
   obtain ⟨c0,f0⟩:=hu.cell (k:=i2) (by omega)
   obtain ⟨c1,f1⟩:=hu.cell (k:=j2) (by omega)
   have SW:=Lib.hid (hu.swap (i:=i2) (j:=j2) (by omega) (by omega))
   obtain ⟨x,hx⟩:∃x,x=ys[i2]?.getD 0:=⟨_,rfl⟩
   obtain ⟨y,hy⟩:∃y,y=ys[j2]?.getD 0:=⟨_,rfl⟩
   rw [← hx] at c0 SW
   rw [← hy] at c1 SW
   obtain ⟨z,hz⟩:=cell?_setCell_some (w:=wc) (p:=⟨g,i2,none⟩) (x:= .int .u32 y) (q:=⟨g,j2,none⟩) (v:= .int .u32 y) c1
   clear hu hx hy
   go_wp2_with fail
   go_region
   all_goals
    have HS:=Lib.hid (Srt.trans HP.out.1 HP.out.2.2 (SW.out.drewN 1))
    clear c0 c1 f0 f1 hz s1 s2 s3 s4 SW HP
    go_wp2_with fail
    go_loopw [10,11] (fun vi vj wr=>∃i j:Nat,a+1≤i∧i≤j+2∧a≤j∧j<jb+1∧vi = .int .i64 (i:Nat)∧vj = .int .i64 (j:Nat)∧Srt w g n c xs wr) (fun _ vj _=>(intOf vj).toNat)
    case atStart=>exact ⟨i2+1,j2-1,by omega,by omega,by omega,by omega,by go_num,by go_num,HS.out⟩
    case round=>
     obtain ⟨i,j,r1,r2,r3,r4,rfl,rfl,hs⟩:=hrel
     have HS:=Lib.hid hs
     clear hs
     go_upto_block 6 with fail
     go_cut [10] (fun v wr=>∃t:Nat,i≤t∧t≤j+2∧v = .int .i64 (t:Nat)∧Srt w g n c xs wr)
     case first=>
      go_wp2_with fail
      go_loopw [10] (fun v wr=>∃t:Nat,i≤t∧t≤j+2∧v = .int .i64 (t:Nat)∧Srt w g n c xs wr) (fun v _=>(j+2-(intOf v).toNat))
      case atStart=>exact ⟨i,by omega,by omega,rfl,HS.out⟩
      case round=>
       obtain ⟨t,k1,k2,rfl,ys,hp,hu,hc⟩:=hrel
       have HP:=Lib.hid (And.intro hp (And.intro hu hc))
       clear hp hc
       by_cases hg:t≤j
       ·have g0:(t:Int)≤(j:Int):=by omega
        have g1:(t:Int)<(n:Int):=by omega
        have g2:t<n:=by omega
        have g3:(a:Int)<(n:Int):=by omega
        have g4:a<n:=by omega
        obtain ⟨c0,_⟩:=hu.cell (k:=t) (by omega)
        obtain ⟨c1,_⟩:=hu.cell (k:=a) (by omega)
        generalize hx0:ys[t]?.getD 0=x at *
        generalize hx1:ys[a]?.getD 0=y at *
        obtain ⟨q,hq⟩:=less_some x y
        have HQ:=Lib.hid hq
        clear hu hq hx0 hx1
        cases q with
        | true=>
         go_wp2_with fail
         go_quiet ((go_at_call 146;exact q_same (HQ.out _)))
         go_wp2_with fail
         go_roundw
         case rel=>exact ⟨t+1,by omega,by omega,by go_num,Srt.drewN ⟨ys,HP.out.1,HP.out.2.1,HP.out.2.2⟩ _⟩
         case measure=>simp [intOf]<;>omega
        | false=>
         go_wp2_with fail
         go_quiet ((go_at_call 146;exact q_same (HQ.out _)))
         go_wp2_with fail
         go_meet
         exact ⟨t,k1,k2,rfl,Srt.drewN ⟨ys,HP.out.1,HP.out.2.1,HP.out.2.2⟩ _⟩
       ·have g0:¬(t:Int)≤(j:Int):=by omega
        have g1:decide (t≤j)=false:=by simpa using hg
        clear hu
        go_wp2_with fail
        go_quiet (fail)
        go_wp2_with fail
        go_meet
        exact ⟨t,k1,k2,rfl,Srt.drewN ⟨ys,HP.out.1,HP.out.2.1,HP.out.2.2⟩ _⟩
     obtain ⟨t,k1,k2,rfl,hs⟩:=hcut
     have HS:=Lib.hid hs
     clear hs
     obtain ⟨i3,hi3⟩:∃i3,i3=t:=⟨_,rfl⟩
     subst hi3
     go_upto_block 8 with fail
     go_cut [11] (fun v wr=>∃t:Nat,a≤t∧t≤j∧v = .int .i64 (t:Nat)∧Srt w g n c xs wr)
     case first=>
      go_wp2_with fail
      go_loopw [11] (fun v wr=>∃t:Nat,a≤t∧t≤j∧v = .int .i64 (t:Nat)∧Srt w g n c xs wr) (fun v _=>(intOf v).toNat)
      case atStart=>exact ⟨j,by omega,by omega,rfl,HS.out⟩
      case round=>
       obtain ⟨t,k1,k2,rfl,ys,hp,hu,hc⟩:=hrel
       have HP:=Lib.hid (And.intro hp (And.intro hu hc))
       clear hp hc
       by_cases hg:i3≤t
       ·have g0:(i3:Int)≤(t:Int):=by omega
        have g1:(t:Int)<(n:Int):=by omega
        have g2:t<n:=by omega
        have g3:(a:Int)<(n:Int):=by omega
        have g4:a<n:=by omega
        obtain ⟨c0,_⟩:=hu.cell (k:=t) (by omega)
        obtain ⟨c1,_⟩:=hu.cell (k:=a) (by omega)
        generalize hx0:ys[t]?.getD 0=x at *
        generalize hx1:ys[a]?.getD 0=y at *
        obtain ⟨q,hq⟩:=less_some x y
        have HQ:=Lib.hid hq
        clear hu hq hx0 hx1
        cases q with
        | false=>
         go_wp2_with fail
         go_quiet ((go_at_call 146;exact q_same (HQ.out _)))
         go_wp2_with fail
         go_roundw
         case rel=>exact ⟨t-1,by omega,by omega,by go_num,Srt.drewN ⟨ys,HP.out.1,HP.out.2.1,HP.out.2.2⟩ _⟩
         case measure=>simp [intOf]<;>omega
        | true=>
         go_wp2_with fail
         go_quiet ((go_at_call 146;exact q_same (HQ.out _)))
         go_wp2_with fail
         go_meet
         exact ⟨t,k1,k2,rfl,Srt.drewN ⟨ys,HP.out.1,HP.out.2.1,HP.out.2.2⟩ _⟩
       ·have g0:¬(i3:Int)≤(t:Int):=by omega
        have g1:decide (i3≤t)=false:=by simpa using hg
        clear hu
        go_wp2_with fail
        go_quiet (fail)
        go_wp2_with fail
        go_meet
        exact ⟨t,k1,k2,rfl,Srt.drewN ⟨ys,HP.out.1,HP.out.2.1,HP.out.2.2⟩ _⟩
     obtain ⟨t,k1,k2,rfl,hs⟩:=hcut
     have HS:=Lib.hid hs
     clear hs
     obtain ⟨j3,hj3⟩:∃j3,j3=t:=⟨_,rfl⟩
     subst hj3
     obtain ⟨ys,hp,hu,hc⟩:=HS.out
     have HP:=Lib.hid (And.intro hp (And.intro hu hc))
     clear hp hc HS
     by_cases hij3:j3<i3
     ·have t2:(j3:Int)<(i3:Int):=by omega
      have s1:(j3:Int)<(n:Int):=by omega
      have s2:(a:Int)<(n:Int):=by omega
      have s3:j3<n:=by omega
      have s4:a<n:=by omega
      obtain ⟨c0,f0⟩:=hu.cell (k:=j3) (by omega)
      obtain ⟨c1,f1⟩:=hu.cell (k:=a) (by omega)
      have SW:=Lib.hid (hu.swap (i:=j3) (j:=a) (by omega) (by omega))
      obtain ⟨x,hx⟩:∃x,x=ys[j3]?.getD 0:=⟨_,rfl⟩
      obtain ⟨y,hy⟩:∃y,y=ys[a]?.getD 0:=⟨_,rfl⟩
      rw [← hx] at c0 SW
      rw [← hy] at c1 SW
      obtain ⟨z,hz⟩:=cell?_setCell_some (w:=wc) (p:=⟨g,j3,none⟩) (x:= .int .u32 y) (q:=⟨g,a,none⟩) (v:= .int .u32 y) c1
      clear hu hx hy
      go_wp2_with fail
      go_region
      all_goals
       have HS:=Lib.hid (Srt.trans HP.out.1 HP.out.2.2 (SW.out.drewN 1))
       clear c0 c1 f0 f1 hz s1 s2 s3 s4 SW HP
       go_wp2_with fail
       exact bodyPost_ret (v:= .tuple #[.int .i64 (j3:Nat),.bool false]) (by simp [results,Tryz.results148,go_sem, *]) rfl ⟨⟨j3,_,rfl,by omega,by omega⟩,HS.out⟩
     ·have t2:¬(j3:Int)<(i3:Int):=by omega
      have s1:(i3:Int)<(n:Int):=by omega
      have s2:(j3:Int)<(n:Int):=by omega
      have s3:i3<n:=by omega
      have s4:j3<n:=by omega
      obtain ⟨c0,f0⟩:=hu.cell (k:=i3) (by omega)
      obtain ⟨c1,f1⟩:=hu.cell (k:=j3) (by omega)
      have SW:=Lib.hid (hu.swap (i:=i3) (j:=j3) (by omega) (by omega))
      obtain ⟨x,hx⟩:∃x,x=ys[i3]?.getD 0:=⟨_,rfl⟩
      obtain ⟨y,hy⟩:∃y,y=ys[j3]?.getD 0:=⟨_,rfl⟩
      rw [← hx] at c0 SW
      rw [← hy] at c1 SW
      obtain ⟨z,hz⟩:=cell?_setCell_some (w:=wc) (p:=⟨g,i3,none⟩) (x:= .int .u32 y) (q:=⟨g,j3,none⟩) (v:= .int .u32 y) c1
      clear hu hx hy
      go_wp2_with fail
      go_region
      all_goals
       have HS:=Lib.hid (Srt.trans HP.out.1 HP.out.2.2 (SW.out.drewN 1))
       clear c0 c1 f0 f1 hz s1 s2 s3 s4 SW HP
       go_wp2_with fail
       go_roundw
       case rel=>exact ⟨i3+1,j3-1,by omega,by omega,by omega,by omega,by go_num,by go_num,HS.out⟩
       case measure=>simp [intOf]<;>omega
set_option maxRecDepth 100000 in
set_option maxHeartbeats 16000000 in
theorem parteq_any (g n c a b p:Nat) (xs:List Int) (w:World) (h:U32At w g n c xs) (hap:a≤p) (hpb:p<b) (hb:b≤n) (hn:n≤1000000000) :
  Calls Tryz.prog 147 #[.slice (some ⟨g,0,none⟩) n c,.int .i64 (a:Nat),.int .i64 (b:Nat),.int .i64 (p:Nat)] w fun e w'=>(∃ (m:Nat),e = .returned (.int .i64 (m:Nat))∧a<m∧m≤b)∧Srt w g n c xs w':=by
 obtain ⟨j0,hj0⟩:∃j0,b=j0+1:=⟨b-1,by omega⟩
 have jj:(b:Int)-1=(j0:Int):=by omega
 have bj1:j0+1≤b:=by omega
 have bj2:b≤j0+1:=by omega
 clear hj0
 obtain ⟨ys,hp,hu,hc⟩:=Srt.refl h
 have HP:=Lib.hid (And.intro hp (And.intro hu hc))
 clear hp hc h
 have s1:(a:Int)<(n:Int):=by omega
 have s2:(p:Int)<(n:Int):=by omega
 have s3:a<n:=by omega
 have s4:p<n:=by omega
 obtain ⟨c0,f0⟩:=hu.cell (k:=a) (by omega)
 obtain ⟨c1,f1⟩:=hu.cell (k:=p) (by omega)
 have SW:=Lib.hid (hu.swap (i:=a) (j:=p) (by omega) (by omega))
 obtain ⟨x,hx⟩:∃x,x=ys[a]?.getD 0:=⟨_,rfl⟩
 obtain ⟨y,hy⟩:∃y,y=ys[p]?.getD 0:=⟨_,rfl⟩
 rw [← hx] at c0 SW
 rw [← hy] at c1 SW
 obtain ⟨z,hz⟩:=cell?_setCell_some (w:=w) (p:=⟨g,a,none⟩) (x:= .int .u32 y) (q:=⟨g,p,none⟩) (v:= .int .u32 y) c1
 clear hu hx hy
 go_enter Tryz.func147,Tryz.ntmps147
 go_wp2_with fail
 go_region
 all_goals
  have HS:=Lib.hid (Srt.trans HP.out.1 HP.out.2.2 (SW.out.drewN 1))
  clear c0 c1 f0 f1 hz s1 s2 s3 s4
  clear SW HP
  go_wp2_with fail
  go_loopw [9,10] (fun vi vj wr=>∃i j:Nat,a+1≤i∧i≤j0+1∧a≤j∧j<j0+1∧vi = .int .i64 (i:Nat)∧vj = .int .i64 (j:Nat)∧Srt w g n c xs wr) (fun _ vj _=>(intOf vj).toNat)
  case atStart=>exact ⟨a+1,j0,by omega,by omega,by omega,by omega,by go_num,by go_num,HS.out⟩
  case round=>
   obtain ⟨i,j,r1,r2,r3,r4,rfl,rfl,hs⟩:=hrel
   have HS:=Lib.hid hs
   clear hs
   go_upto_block 2 with fail
   go_cut [9] (fun v wr=>∃t:Nat,i≤t∧t≤j0+1∧v = .int .i64 (t:Nat)∧Srt w g n c xs wr)
   case first=>
    go_wp2_with fail
    go_loopw [9] (fun v wr=>∃t:Nat,i≤t∧t≤j0+1∧v = .int .i64 (t:Nat)∧Srt w g n c xs wr) (fun v _=>(j0+1-(intOf v).toNat))
    case atStart=>exact ⟨i,by omega,by omega,rfl,HS.out⟩
    case round=>
     obtain ⟨t,k1,k2,rfl,ys,hp,hu,hc⟩:=hrel
     have HP:=Lib.hid (And.intro hp (And.intro hu hc))
     clear hp hc
     by_cases hg:t≤j
     ·have g0:(t:Int)≤(j:Int):=by omega
      have g1:(t:Int)<(n:Int):=by omega
      have g2:t<n:=by omega
      have g3:(a:Int)<(n:Int):=by omega
      have g4:a<n:=by omega
      obtain ⟨c0,_⟩:=hu.cell (k:=t) (by omega)
      obtain ⟨c1,_⟩:=hu.cell (k:=a) (by omega)
      generalize hx0:ys[t]?.getD 0=x at *
      generalize hx1:ys[a]?.getD 0=y at *
      obtain ⟨q,hq⟩:=less_some y x
      have HQ:=Lib.hid hq
      clear hu hq hx0 hx1
      cases q with
      | false=>
       go_wp2_with fail
       go_quiet ((go_at_call 146;exact q_same (HQ.out _)))
       go_wp2_with fail
       go_roundw
       case rel=>exact ⟨t+1,by omega,by omega,by go_num,Srt.drewN ⟨ys,HP.out.1,HP.out.2.1,HP.out.2.2⟩ _⟩
       case measure=>simp [intOf]<;>omega
      | true=>
       go_wp2_with fail
       go_quiet ((go_at_call 146;exact q_same (HQ.out _)))
       go_wp2_with fail
       go_meet
       exact ⟨t,k1,k2,rfl,Srt.drewN ⟨ys,HP.out.1,HP.out.2.1,HP.out.2.2⟩ _⟩
     ·have g0:¬(t:Int)≤(j:Int):=by omega
      have g1:decide (t≤j)=false:=by simpa using hg
      clear hu
      go_wp2_with fail
      go_quiet (fail)
      go_wp2_with fail
      go_meet
      exact ⟨t,k1,k2,rfl,Srt.drewN ⟨ys,HP.out.1,HP.out.2.1,HP.out.2.2⟩ _⟩
   obtain ⟨t,k1,k2,rfl,hs⟩:=hcut
   have HS:=Lib.hid hs
   clear hs
   obtain ⟨i3,hi3⟩:∃i3,i3=t:=⟨_,rfl⟩
   subst hi3
   go_upto_block 4 with fail
   go_cut [10] (fun v wr=>∃t:Nat,a≤t∧t≤j∧v = .int .i64 (t:Nat)∧Srt w g n c xs wr)
   case first=>
    go_wp2_with fail
    go_loopw [10] (fun v wr=>∃t:Nat,a≤t∧t≤j∧v = .int .i64 (t:Nat)∧Srt w g n c xs wr) (fun v _=>(intOf v).toNat)
    case atStart=>exact ⟨j,by omega,by omega,rfl,HS.out⟩
    case round=>
     obtain ⟨t,k1,k2,rfl,ys,hp,hu,hc⟩:=hrel
     have HP:=Lib.hid (And.intro hp (And.intro hu hc))
     clear hp hc
     by_cases hg:i3≤t
     ·have g0:(i3:Int)≤(t:Int):=by omega
      have g1:(t:Int)<(n:Int):=by omega
      have g2:t<n:=by omega
      have g3:(a:Int)<(n:Int):=by omega
      have g4:a<n:=by omega
      obtain ⟨c0,_⟩:=hu.cell (k:=t) (by omega)
      obtain ⟨c1,_⟩:=hu.cell (k:=a) (by omega)
      generalize hx0:ys[t]?.getD 0=x at *
      generalize hx1:ys[a]?.getD 0=y at *
      obtain ⟨q,hq⟩:=less_some y x
      have HQ:=Lib.hid hq
      clear hu hq hx0 hx1
      cases q with
      | true=>
       go_wp2_with fail
       go_quiet ((go_at_call 146;exact q_same (HQ.out _)))
       go_wp2_with fail
       go_roundw
       case rel=>exact ⟨t-1,by omega,by omega,by go_num,Srt.drewN ⟨ys,HP.out.1,HP.out.2.1,HP.out.2.2⟩ _⟩
       case measure=>simp [intOf]<;>omega
      | false=>
       go_wp2_with fail
       go_quiet ((go_at_call 146;exact q_same (HQ.out _)))
       go_wp2_with fail
       go_meet
       exact ⟨t,k1,k2,rfl,Srt.drewN ⟨ys,HP.out.1,HP.out.2.1,HP.out.2.2⟩ _⟩
     ·have g0:¬(i3:Int)≤(t:Int):=by omega
      have g1:decide (i3≤t)=false:=by simpa using hg
      clear hu
      go_wp2_with fail
      go_quiet (fail)
      go_wp2_with fail
      go_meet
      exact ⟨t,k1,k2,rfl,Srt.drewN ⟨ys,HP.out.1,HP.out.2.1,HP.out.2.2⟩ _⟩
   obtain ⟨t,k1,k2,rfl,hs⟩:=hcut
   have HS:=Lib.hid hs
   clear hs
   obtain ⟨j3,hj3⟩:∃j3,j3=t:=⟨_,rfl⟩
   subst hj3
   by_cases hij3:j3<i3
   ·have t2:(j3:Int)<(i3:Int):=by omega
    go_wp2_with fail
    exact bodyPost_ret (v:= .int .i64 (i3:Nat)) (by simp [results,Tryz.results147,go_sem, *]) rfl ⟨⟨i3,rfl,by omega,by omega⟩,HS.out⟩
   ·have t2:¬(j3:Int)<(i3:Int):=by omega
    obtain ⟨ys,hp,hu,hc⟩:=HS.out
    have HP:=Lib.hid (And.intro hp (And.intro hu hc))
    clear hp hc HS
    have s1:(i3:Int)<(n:Int):=by omega
    have s2:(j3:Int)<(n:Int):=by omega
    have s3:i3<n:=by omega
    have s4:j3<n:=by omega
    obtain ⟨c0,f0⟩:=hu.cell (k:=i3) (by omega)
    obtain ⟨c1,f1⟩:=hu.cell (k:=j3) (by omega)
    have SW:=Lib.hid (hu.swap (i:=i3) (j:=j3) (by omega) (by omega))
    obtain ⟨x,hx⟩:∃x,x=ys[i3]?.getD 0:=⟨_,rfl⟩
    obtain ⟨y,hy⟩:∃y,y=ys[j3]?.getD 0:=⟨_,rfl⟩
    rw [← hx] at c0 SW
    rw [← hy] at c1 SW
    obtain ⟨z,hz⟩:=cell?_setCell_some (w:=wc) (p:=⟨g,i3,none⟩) (x:= .int .u32 y) (q:=⟨g,j3,none⟩) (v:= .int .u32 y) c1
    clear hu hx hy
    go_wp2_with fail
    go_region
    all_goals
     have HS:=Lib.hid (Srt.trans HP.out.1 HP.out.2.2 (SW.out.drewN 1))
     clear c0 c1 f0 f1 hz s1 s2 s3 s4 SW HP
     go_wp2_with fail
     go_roundw
     case rel=>exact ⟨i3+1,j3-1,by omega,by omega,by omega,by omega,by go_num,by go_num,HS.out⟩
     case measure=>simp [intOf]<;>omega
end
section
open Go Go.RowKit
def SomeB (e:Ending):Prop:=∃q:Bool,e = .returned (.bool q)
set_option maxRecDepth 100000 in
set_option maxHeartbeats 16000000 in
theorem partial_any (g n c a b:Nat) (xs:List Int) (w:World) (h:U32At w g n c xs) (hab:a<b) (hb:b≤n) (hn:n≤1000000000) :
  Calls Tryz.prog 145 #[.slice (some ⟨g,0,none⟩) n c,.int .i64 (a:Nat),.int .i64 (b:Nat)] w fun e w'=>SomeB e∧Srt w g n c xs w':=by
 have HS:=Lib.hid (Srt.refl h)
 clear h
 go_enter Tryz.func145,Tryz.ntmps145
 go_wp2_with fail
 go_loopw [7,8] (fun vi vk wr=>∃i k:Nat,a+1≤i∧i≤b∧k≤5∧vi = .int .i64 (i:Nat)∧vk = .int .i64 (k:Nat)∧Srt w g n c xs wr) (fun _ vk _=>5-(intOf vk).toNat)
 case atStart=>exact ⟨a+1,0,by omega,by omega,by omega,by go_num,rfl,HS.out⟩
 case round=>
  obtain ⟨i,k,r1,r2,r3,rfl,rfl,hs⟩:=hrel
  have HS:=Lib.hid hs
  clear hs
  by_cases hk:k<5
  ·have hki:(k:Int)<5:=by omega
   go_upto_block 2 with fail
   go_cut [7] (fun v wr=>∃t:Nat,i≤t∧t≤b∧v = .int .i64 (t:Nat)∧Srt w g n c xs wr)
   case first=>
    go_wp2_with fail
    go_loopw [7] (fun v wr=>∃t:Nat,i≤t∧t≤b∧v = .int .i64 (t:Nat)∧Srt w g n c xs wr) (fun v _=>b-(intOf v).toNat)
    case atStart=>exact ⟨i,Nat.le_refl _,r2,rfl,HS.out⟩
    case round=>
     obtain ⟨t,k1,k2,rfl,ys,hp,hu,hc⟩:=hrel
     have HP:=Lib.hid (And.intro hp (And.intro hu hc))
     clear hp hc
     by_cases hg:t<b
     ·have g0:(t:Int)<(b:Int):=by omega
      have g1:(t:Int)<(n:Int):=by omega
      have g2:t<n:=by omega
      have p1:((t:Int)-1).toNat=t-1:=by omega
      have p2:(0:Int)≤(t:Int)-1:=by omega
      have p3:(t:Int)-1<(n:Int):=by omega
      have p4:=wrapN ((t:Int)-1) (by omega) (by omega)
      have g3:t-1<n:=by omega
      obtain ⟨c0,_⟩:=hu.cell (k:=t) (by omega)
      obtain ⟨c1,_⟩:=hu.cell (k:=t-1) (by omega)
      generalize hx0:ys[t]?.getD 0=x at *
      generalize hx1:ys[t-1]?.getD 0=y at *
      obtain ⟨q,hq⟩:=less_some x y
      have HQ:=Lib.hid hq
      clear hu hq hx0 hx1
      cases q with
      | false=>
       go_wp2_with fail
       go_quiet ((go_at_call 146;exact q_same (HQ.out _)))
       go_wp2_with fail
       go_roundw
       case rel=>exact ⟨t+1,by omega,by omega,by go_num,Srt.drewN ⟨ys,HP.out.1,HP.out.2.1,HP.out.2.2⟩ _⟩
       case measure=>simp [intOf]<;>omega
      | true=>
       go_wp2_with fail
       go_quiet ((go_at_call 146;exact q_same (HQ.out _)))
       go_wp2_with fail
       go_meet
       exact ⟨t,k1,k2,rfl,Srt.drewN ⟨ys,HP.out.1,HP.out.2.1,HP.out.2.2⟩ _⟩
     ·have g0:¬(t:Int)<(b:Int):=by omega
      have g1:decide (t<b)=false:=by simpa using hg
      clear hu
      go_wp2_with fail
      go_quiet (fail)
      go_wp2_with fail
      go_meet
      exact ⟨t,k1,k2,rfl,Srt.drewN ⟨ys,HP.out.1,HP.out.2.1,HP.out.2.2⟩ _⟩
   obtain ⟨t,k1,k2,rfl,hs⟩:=hcut
   have HS:=Lib.hid hs
   clear hs
   by_cases htb:t=b
   ·subst htb
    go_wp2_with fail
    exact bodyPost_ret (v:= .bool true) (by simp [results,Tryz.results145,go_sem, *]) rfl ⟨⟨_,rfl⟩,HS.out⟩
   ·have htb2:(t==b)=false:=by simpa using htb
    have htb3:((t:Int)==(b:Int))=false:=by simp;omega
    have htlt:t<b:=by omega
    clear htb
    by_cases h50:(b:Int)-(a:Int)<50
    ·go_wp2_with fail
     exact bodyPost_ret (v:= .bool false) (by simp [results,Tryz.results145,go_sem, *]) rfl ⟨⟨_,rfl⟩,HS.out⟩
    ·obtain ⟨ys,hp,hu,hc⟩:=HS.out
     have HP:=Lib.hid (And.intro hp (And.intro hu hc))
     clear hp hc HS
     have p1:((t:Int)-1).toNat=t-1:=by omega
     have p2:(0:Int)≤(t:Int)-1:=by omega
     have p3:(t:Int)-1<(n:Int):=by omega
     have p4:=wrapN ((t:Int)-1) (by omega) (by omega)
     have s1:(t:Int)<(n:Int):=by omega
     have s2:(t-1:Int)<(n:Int):=by omega
     have s3:t<n:=by omega
     have s4:t-1<n:=by omega
     obtain ⟨c0,f0⟩:=hu.cell (k:=t) (by omega)
     obtain ⟨c1,f1⟩:=hu.cell (k:=t-1) (by omega)
     have SW:=Lib.hid (hu.swap (i:=t) (j:=t-1) (by omega) (by omega))
     obtain ⟨x,hx⟩:∃x,x=ys[t]?.getD 0:=⟨_,rfl⟩
     obtain ⟨y,hy⟩:∃y,y=ys[t-1]?.getD 0:=⟨_,rfl⟩
     rw [← hx] at c0 SW
     rw [← hy] at c1 SW
     obtain ⟨z,hz⟩:=cell?_setCell_some (w:=wc) (p:=⟨g,t,none⟩) (x:= .int .u32 y) (q:=⟨g,t-1,none⟩) (v:= .int .u32 y) c1
     clear hu hx hy
     go_wp2_with fail
     go_region
     all_goals
      have HS:=Lib.hid (Srt.trans HP.out.1 HP.out.2.2 (SW.out.drewN 1))
      clear c0 c1 f0 f1 hz SW HP s1 s2 s3 s4
      go_upto_if 61 with fail
      go_cut [7] (fun v wr=>v = .int .i64 (t:Nat)∧Srt w g n c xs wr)
      case first=>
       by_cases h2:2≤(t:Int)-(a:Int)
       ·go_wp2_with fail
        go_loopw [9] (fun v wr=>∃j:Nat,j+1≤t∧v = .int .i64 (j:Nat)∧Srt w g n c xs wr) (fun v _=>(intOf v).toNat)
        case atStart=>exact ⟨t-1,by omega,by go_num,HS.out⟩
        case round=>
         obtain ⟨j,j1,rfl,ys,hp,hu,hc⟩:=hrel
         have HP:=Lib.hid (And.intro hp (And.intro hu hc))
         clear hp hc
         by_cases hj:1≤j
         ·have hji:(1:Int)≤(j:Int):=by omega
          have p1:((j:Int)-1).toNat=j-1:=by omega
          have p2:(0:Int)≤(j:Int)-1:=by omega
          have p3:(j:Int)-1<(n:Int):=by omega
          have p4:=wrapN ((j:Int)-1) (by omega) (by omega)
          have s1:(j:Int)<(n:Int):=by omega
          have s2:(j-1:Int)<(n:Int):=by omega
          have s3:j<n:=by omega
          have s4:j-1<n:=by omega
          obtain ⟨c0,f0⟩:=hu.cell (k:=j) (by omega)
          obtain ⟨c1,f1⟩:=hu.cell (k:=j-1) (by omega)
          have SW:=Lib.hid (hu.swap (i:=j) (j:=j-1) (by omega) (by omega))
          obtain ⟨x,hx⟩:∃x,x=ys[j]?.getD 0:=⟨_,rfl⟩
          obtain ⟨y,hy⟩:∃y,y=ys[j-1]?.getD 0:=⟨_,rfl⟩
          rw [← hx] at c0 SW
          rw [← hy] at c1 SW
          obtain ⟨z,hz⟩:=cell?_setCell_some (w:=wr) (p:=⟨g,j,none⟩) (x:= .int .u32 y) (q:=⟨g,j-1,none⟩) (v:= .int .u32 y) c1
          obtain ⟨q,hq⟩:=less_some x y
          have HQ:=Lib.hid hq
          clear hu hq hx hy
          cases q with
          | true=>
           go_wp2_with fail
           go_quiet ((go_at_call 146;exact q_same (HQ.out _)))
           go_wp2_with fail
           go_region
           all_goals
            go_wp2_with fail
            go_roundw
            case rel=>exact ⟨j-1,by omega,by go_num,Srt.trans HP.out.1 HP.out.2.2 (SW.out.drewN _)⟩
            case measure=>simp [intOf]<;>omega
          | false=>
           go_wp2_with fail
           go_quiet ((go_at_call 146;exact q_same (HQ.out _)))
           go_wp2_with fail
           go_meet
           exact ⟨rfl,(Srt.drewN ⟨ys,HP.out.1,HP.out.2.1,HP.out.2.2⟩ _)⟩
         ·have hji:¬(1:Int)≤(j:Int):=by omega
          clear hu
          go_wp2_with fail
          go_meet
          exact ⟨rfl,ys,HP.out.1,HP.out.2.1,HP.out.2.2⟩
       ·go_wp2_with fail
        go_meet
        exact ⟨rfl,HS.out⟩
      obtain ⟨rfl,hs⟩:=hcut
      have HS:=Lib.hid hs
      clear hs
      by_cases h2:2≤(b:Int)-(t:Int)
      ·go_wp2_with fail
       obtain ⟨wo,hwo⟩:∃wo:World,wo=wc:=⟨_,rfl⟩
       rw [← hwo] at HS
       subst hwo
       go_loopw [10] (fun v wr=>∃j:Nat,t+1≤j∧j≤b∧v = .int .i64 (j:Nat)∧Srt w g n c xs wr) (fun v _=>b-(intOf v).toNat)
       case atStart=>exact ⟨t+1,by omega,by omega,by go_num,HS.out⟩
       case round=>
        obtain ⟨j,j1,j2,rfl,ys,hp,hu,hc⟩:=hrel
        have HP:=Lib.hid (And.intro hp (And.intro hu hc))
        clear hp hc
        by_cases hj:j<b
        ·have hji:(j:Int)<(b:Int):=by omega
         have p1:((j:Int)-1).toNat=j-1:=by omega
         have p2:(0:Int)≤(j:Int)-1:=by omega
         have p3:(j:Int)-1<(n:Int):=by omega
         have p4:=wrapN ((j:Int)-1) (by omega) (by omega)
         have s1:(j:Int)<(n:Int):=by omega
         have s2:(j-1:Int)<(n:Int):=by omega
         have s3:j<n:=by omega
         have s4:j-1<n:=by omega
         obtain ⟨c0,f0⟩:=hu.cell (k:=j) (by omega)
         obtain ⟨c1,f1⟩:=hu.cell (k:=j-1) (by omega)
         have SW:=Lib.hid (hu.swap (i:=j) (j:=j-1) (by omega) (by omega))
         obtain ⟨x,hx⟩:∃x,x=ys[j]?.getD 0:=⟨_,rfl⟩
         obtain ⟨y,hy⟩:∃y,y=ys[j-1]?.getD 0:=⟨_,rfl⟩
         rw [← hx] at c0 SW
         rw [← hy] at c1 SW
         obtain ⟨z,hz⟩:=cell?_setCell_some (w:=wr) (p:=⟨g,j,none⟩) (x:= .int .u32 y) (q:=⟨g,j-1,none⟩) (v:= .int .u32 y) c1
         obtain ⟨q,hq⟩:=less_some x y
         have HQ:=Lib.hid hq
         clear hu hq hx hy
         cases q with
         | true=>
          go_wp2_with fail
          go_quiet ((go_at_call 146;exact q_same (HQ.out _)))
          go_wp2_with fail
          go_region
          all_goals
           go_wp2_with fail
           go_roundw
           case rel=>exact ⟨j+1,by omega,by omega,by go_num,Srt.trans HP.out.1 HP.out.2.2 (SW.out.drewN _)⟩
           case measure=>simp [intOf]<;>omega
         | false=>
          go_wp2_with fail
          go_quiet ((go_at_call 146;exact q_same (HQ.out _)))
          go_wp2_with fail
          go_roundw
          case rel=>exact ⟨t,k+1,by omega,by omega,by omega,rfl,by go_num,(Srt.drewN ⟨ys,HP.out.1,HP.out.2.1,HP.out.2.2⟩ _)⟩
          case measure=>simp [intOf]<;>omega
        ·have hji:¬(j:Int)<(b:Int):=by omega
         clear hu
         go_wp2_with fail
         go_roundw
         case rel=>exact ⟨t,k+1,by omega,by omega,by omega,rfl,by go_num,ys,HP.out.1,HP.out.2.1,HP.out.2.2⟩
         case measure=>simp [intOf]<;>omega
      ·go_wp2_with fail
       go_roundw
       case rel=>exact ⟨t,k+1,by omega,by omega,by omega,rfl,by go_num,HS.out⟩
       case measure=>simp [intOf]<;>omega
  ·have hki:¬(k:Int)<5:=by omega
   go_wp2_with fail
   exact bodyPost_ret (v:= .bool false) (by simp [results,Tryz.results145,go_sem, *]) rfl ⟨⟨_,rfl⟩,HS.out⟩
end
section
open Go Go.RowKit
def CntAt (w:World) (s:Nat) (k:Nat):Prop:=∃m:Nat,m≤k∧w.cell? ⟨s,0,none⟩=some (.int .i64 (m:Nat))∧w.frozen? ⟨s,0,none⟩=false
theorem U32At.chg {w w':World} {g n c s:Nat} {xs:List Int} (h:U32At w g n c xs) (hc:Chg [s] w w') (hs:g≠s):U32At w' g n c xs:=OwnF.chg h hc (fun k hk=>by
 have:k=g:=by
  have:=mem_blk.1 hk
  simp [Value.ownBlock] at this
  exact this.symm
 subst this
 simpa using hs)
def Cnt (w:World) (s k:Nat) (w':World):Prop:=CntAt w' s k∧Chg [s] w w'
set_option maxRecDepth 100000 in
set_option maxHeartbeats 8000000 in
theorem order2_any (g n c a b s k:Nat) (xs:List Int) (w:World) (h:U32At w g n c xs) (ha:a<n) (hb:b<n) (hn:n≤1000000000) (hs:CntAt w s k) (hk:k≤1000000) :
  Calls Tryz.prog 157 #[.slice (some ⟨g,0,none⟩) n c,.int .i64 (a:Nat),.int .i64 (b:Nat),.pointer (some ⟨s,0,none⟩)] w fun e w'=>(∃ p q:Nat,e = .returned (.tuple #[.int .i64 (p:Nat),.int .i64 (q:Nat)])∧(p=a∨p=b)∧(q=a∨q=b))∧Cnt w s (k+1) w':=by
 have a1:(a:Int)<(n:Int):=by omega
 have b1:(b:Int)<(n:Int):=by omega
 obtain ⟨c0,_⟩:=h.cell ha
 obtain ⟨c1,_⟩:=h.cell hb
 obtain ⟨m,hm,c2,f2⟩:=hs
 generalize xs[a]?.getD 0=x at *
 generalize xs[b]?.getD 0=y at *
 obtain ⟨q,hq⟩:=less_some y x
 have HQ:=Lib.hid hq
 have v1:=wrapN ((m:Int)+1) (by omega) (by omega)
 clear h hq
 cases q with
 | true=>
  go_enter Tryz.func157,Tryz.ntmps157
  go_wp2_with fail
  go_quiet ((go_at_call 146;exact q_same (HQ.out _)))
  go_wp2_with fail
  refine bodyPost_ret (v:= .tuple #[.int .i64 (b:Nat),.int .i64 (a:Nat)]) (by simp [results,Tryz.results157,go_sem, *]) rfl ⟨⟨b,a,rfl,.inr rfl,.inl rfl⟩,⟨m+1,by omega,?_,?_⟩,?_⟩
  ·rw [show ((m+1:Nat):Int)=(m:Int)+1 by omega]
   exact World.cell?_setCell_same _ _ _ c2
  ·simp [f2]
  ·exact ((Chg.refl _ _).drewN _).setCell (.inl (by simp)) _
 | false=>
  go_enter Tryz.func157,Tryz.ntmps157
  go_wp2_with fail
  go_quiet ((go_at_call 146;exact q_same (HQ.out _)))
  go_wp2_with fail
  refine bodyPost_ret (v:= .tuple #[.int .i64 (a:Nat),.int .i64 (b:Nat)]) (by simp [results,Tryz.results157,go_sem, *]) rfl ⟨⟨a,b,rfl,.inl rfl,.inr rfl⟩,⟨m,by omega,?_,?_⟩,?_⟩
  ·simp [c2]
  ·simp [f2]
  ·exact (Chg.refl _ _).drewN _
set_option maxRecDepth 100000 in
set_option maxHeartbeats 8000000 in
theorem median_any (g n c p q r s k:Nat) (xs:List Int) (w:World) (h:U32At w g n c xs) (hp:p<n) (hq:q<n) (hr:r<n) (hn:n≤1000000000) (hs:CntAt w s k) (hk:k≤1000) (hg:g≠s) :
  Calls Tryz.prog 155 #[.slice (some ⟨g,0,none⟩) n c,.int .i64 (p:Nat),.int .i64 (q:Nat),.int .i64 (r:Nat),.pointer (some ⟨s,0,none⟩)] w fun e w'=>(∃ m:Nat,e = .returned (.int .i64 (m:Nat))∧(m=p∨m=q∨m=r))∧Cnt w s (k+3) w':=by
 have H1:=Lib.hid (order2_any g n c p q s k xs w h hp hq hn hs (by omega))
 have HR:=Lib.hid (And.intro h hg)
 clear h hs
 go_enter Tryz.func155,Tryz.ntmps155
 go_wp2_with fail
 refine H1.out.mono ?_
 rintro e w1 ⟨⟨p1,q1,rfl,hp1,hq1⟩,hc1,hw1⟩
 have h1:=HR.out.1.chg hw1 HR.out.2
 have H2:=Lib.hid (order2_any g n c q1 r s (k+1) xs w1 h1 (by omega) hr hn hc1 (by omega))
 have HW1:=Lib.hid (And.intro h1 hw1)
 have HP1:=Lib.hid (And.intro hp1 hq1)
 clear h1 hc1 hw1 hp1 hq1
 go_wp2_with fail
 refine H2.out.mono ?_
 rintro e w2 ⟨⟨q2,r2,rfl,hq2,hr2⟩,hc2,hw2⟩
 have h2:=HW1.out.1.chg hw2 HR.out.2
 have H3:=Lib.hid (order2_any g n c p1 q2 s (k+1+1) xs w2 h2 (by have:=HP1.out;omega) (by have:=HP1.out;omega) hn hc2 (by omega))
 have HW2:=Lib.hid (HW1.out.2.trans hw2 (fun x hx=> .inl hx))
 have HP2:=Lib.hid (And.intro hq2 hr2)
 clear h2 hc2 hw2 hq2 hr2
 go_wp2_with fail
 refine H3.out.mono ?_
 rintro e w3 ⟨⟨p3,q3,rfl,hp3,hq3⟩,hc3,hw3⟩
 have FIN:=Lib.hid (And.intro hc3 (HW2.out.trans hw3 (fun x hx=> .inl hx)))
 have HP3:Hid (q3=p∨q3=q∨q3=r):=Lib.hid (by
  have h1:=HP1.out
  have h2:=HP2.out
  omega)
 clear hc3 hw3 hp3 hq3
 go_wp2_with fail
 go_ret
 exact ⟨⟨q3,rfl,HP3.out⟩,FIN.out.1,FIN.out.2⟩
set_option maxRecDepth 100000 in
set_option maxHeartbeats 8000000 in
theorem medadj_any (g n c p s k:Nat) (xs:List Int) (w:World) (h:U32At w g n c xs) (hp:1≤p) (hp2:p+1<n) (hn:n≤1000000000) (hs:CntAt w s k) (hk:k≤1000) (hg:g≠s) :
  Calls Tryz.prog 154 #[.slice (some ⟨g,0,none⟩) n c,.int .i64 (p:Nat),.pointer (some ⟨s,0,none⟩)] w fun e w'=>(∃ m:Nat,e = .returned (.int .i64 (m:Nat))∧p≤m+1∧m≤p+1)∧Cnt w s (k+3) w':=by
 have H1:=median_any g n c (p-1) p (p+1) s k xs w h (by omega) (by omega) (by omega) hn hs hk hg
 have e1:((p-1:Nat):Int)=(p:Int)-1:=by omega
 have e2:((p+1:Nat):Int)=(p:Int)+1:=by omega
 rw [e1,e2] at H1
 have H2:=Lib.hid H1
 clear H1 e1 e2 h hs
 go_enter Tryz.func154,Tryz.ntmps154
 go_wp2_with fail
 refine H2.out.mono ?_
 rintro e w1 ⟨⟨m,rfl,hm⟩,hc⟩
 have HM:Hid (p≤m+1∧m≤p+1):=Lib.hid (by omega)
 have HC:=Lib.hid hc
 clear hm hc
 go_wp2_with fail
 go_ret
 exact ⟨⟨m,rfl,HM.out⟩,HC.out⟩
def PivOut (a b:Nat) (e:Ending):Prop:=∃p h:Nat,e = .returned (.tuple #[.int .i64 (p:Nat),.int .i64 (h:Nat)])∧a≤p∧p<b∧h≤2
set_option maxRecDepth 100000 in
set_option maxHeartbeats 16000000 in
theorem pivot_any (g n c a b:Nat) (xs:List Int) (w:World) (h:U32At w g n c xs) (hab:a+12<b) (hb:b≤n) (hn:n≤1000000000) (hg:g<w.heap.size) :
  Calls Tryz.prog 143 #[.slice (some ⟨g,0,none⟩) n c,.int .i64 (a:Nat),.int .i64 (b:Nat)] w fun e w'=>PivOut a b e∧Below w.heap.size w w':=by
 obtain ⟨l,hl⟩:∃l,l=b-a:=⟨_,rfl⟩
 have l1:(b:Int)-(a:Int)=(l:Int):=by omega
 have l2:a+l≤b:=by omega
 have l3:b≤a+l:=by omega
 clear hl
 obtain ⟨d,hd⟩:∃d,d=l/4:=⟨_,rfl⟩
 have d1:(l:Int)/4=(d:Int):=by omega
 have d2:4*d≤l:=by omega
 have d3:l<4*d+4:=by omega
 clear hd
 obtain ⟨W,hW⟩:∃W,W=w.alloc (.cells #[.int .i64 0] 3):=⟨_,rfl⟩
 have hs0:CntAt W w.heap.size 0:=⟨0,Nat.le_refl _,by rw [hW];simp,by rw [hW];simp⟩
 have hu:U32At W g n c xs:=by rw [hW];exact OwnF.alloc h _
 have hne:g≠w.heap.size:=by omega
 have hcw:Chg [w.heap.size] W W:=Chg.refl _ _
 have HWW:=Lib.hid hW
 have HBW:Hid (∀ w',Chg [w.heap.size] W w'→Below w.heap.size w w'):=Lib.hid (fun w' h=>by
  have hb:Below w.heap.size w W:=by rw [hW];exact (Below.refl _ _).alloc (Nat.le_refl _) _
  refine hb.trans ⟨h.os,h.tape,h.output,h.size,fun k hk=>h.block k (by rw [hW];simp;omega) (by simp;omega)⟩)
 have HU:=Lib.hid (And.intro hu (And.intro hs0 hcw))
 have h8:(8:Int)≤(l:Int):=by omega
 have m1:=wrapN ((d:Int)*1) (by omega) (by omega)
 have m2:=wrapN ((d:Int)*2) (by omega) (by omega)
 have m3:=wrapN ((d:Int)*3) (by omega) (by omega)
 clear h hu hs0 hcw
 by_cases h50:50≤l
 ·have h50i:(50:Int)≤(l:Int):=by omega
  have e1:(a:Int)+(d:Int)=((a+d:Nat):Int):=by omega
  have e2:(a:Int)+(d:Int)*2=((a+d*2:Nat):Int):=by omega
  have e3:(a:Int)+(d:Int)*3=((a+d*3:Nat):Int):=by omega
  have M1:=medadj_any g n c (a+d) w.heap.size 0 xs W HU.out.1 (by omega) (by omega) hn HU.out.2.1 (by omega) hne
  rw [← e1] at M1
  have HM1:=Lib.hid M1
  have HM2:=Lib.hid (fun W' (h:U32At W' g n c xs) (hs:CntAt W' w.heap.size 3)=>medadj_any g n c (a+d*2) w.heap.size 3 xs W' h (by omega) (by omega) hn hs (by omega) hne)
  rw [← e2] at HM2
  have HM3:=Lib.hid (fun W' (h:U32At W' g n c xs) (hs:CntAt W' w.heap.size 6)=>medadj_any g n c (a+d*3) w.heap.size 6 xs W' h (by omega) (by omega) hn hs (by omega) hne)
  rw [← e3] at HM3
  clear M1 e1 e2 e3
  have HMD:=Lib.hid (fun (p q r k:Nat) W' (h:U32At W' g n c xs) (hs:CntAt W' w.heap.size k) (hk:k≤1000) (h1:p<n) (h2:q<n) (h3:r<n)=>median_any g n c p q r w.heap.size k xs W' h h1 h2 h3 hn hs hk hne)
  go_enter Tryz.func143,Tryz.ntmps143
  go_wp2_with fail
  rw [← HWW.out]
  clear hW
  refine HM1.out.mono ?_
  rintro e w1 ⟨⟨p1,rfl,k1⟩,hc1,hw1⟩
  have u1:=HU.out.1.chg hw1 hne
  have HC2:=Lib.hid (HM2.out w1 u1 hc1)
  have HU1:=Lib.hid (And.intro u1 hw1)
  have K1:=Lib.hid k1
  clear u1 hc1 hw1 k1
  go_wp2_with fail
  refine HC2.out.mono ?_
  rintro e w2 ⟨⟨p2,rfl,k2⟩,hc2,hw2⟩
  have u2:=HU1.out.1.chg hw2 hne
  have HC3:=Lib.hid (HM3.out w2 u2 hc2)
  have HU2:=Lib.hid (And.intro u2 (HU1.out.2.trans hw2 (fun x hx=> .inl hx)))
  have K2:=Lib.hid k2
  clear u2 hc2 hw2 k2
  go_wp2_with fail
  refine HC3.out.mono ?_
  rintro e w3 ⟨⟨p3,rfl,k3⟩,hc3,hw3⟩
  have u3:=HU2.out.1.chg hw3 hne
  have HC4:=Lib.hid (HMD.out p1 p2 p3 9 w3 u3 hc3 (by omega) (by have:=K1.out;omega) (by have:=K2.out;omega) (by omega))
  have HU3:=Lib.hid (HU2.out.2.trans hw3 (fun x hx=> .inl hx))
  have K3:=Lib.hid k3
  clear u3 hc3 hw3 k3
  go_wp2_with fail
  refine HC4.out.mono ?_
  rintro e w4 ⟨⟨j,rfl,k4⟩,⟨m,hm,c4,f4⟩,hw4⟩
  have HFIN:=Lib.hid (HBW.out w4 (HU3.out.trans hw4 (fun x hx=> .inl hx)))
  have K4:Hid (a≤j∧j<b):=Lib.hid (by have q1:=K1.out;have q2:=K2.out;have q3:=K3.out;omega)
  clear hw4 k4
  by_cases m0:m=0
  ·subst m0
   go_wp2_with fail
   refine bodyPost_ret (v:= .tuple #[.int .i64 (j:Nat),.int .i64 1]) (by simp [results,Tryz.results143,go_sem, *]) rfl ⟨⟨j,1,rfl,K4.out.1,K4.out.2,by omega⟩,HFIN.out⟩
  ·have t0:((m:Int)==0)=false:=by simp;omega
   by_cases m12:m=12
   ·subst m12
    go_wp2_with fail
    refine bodyPost_ret (v:= .tuple #[.int .i64 (j:Nat),.int .i64 2]) (by simp [results,Tryz.results143,go_sem, *]) rfl ⟨⟨j,2,rfl,K4.out.1,K4.out.2,by omega⟩,HFIN.out⟩
   ·have t1:((m:Int)==12)=false:=by simp;omega
    clear m0 m12
    go_wp2_with fail
    refine bodyPost_ret (v:= .tuple #[.int .i64 (j:Nat),.int .i64 0]) (by simp [results,Tryz.results143,go_sem, *]) rfl ⟨⟨j,0,rfl,K4.out.1,K4.out.2,by omega⟩,HFIN.out⟩
 ·have h50i:¬(50:Int)≤(l:Int):=by omega
  have e1:(a:Int)+(d:Int)=((a+d:Nat):Int):=by omega
  have e2:(a:Int)+(d:Int)*2=((a+d*2:Nat):Int):=by omega
  have e3:(a:Int)+(d:Int)*3=((a+d*3:Nat):Int):=by omega
  have HMD:=median_any g n c (a+d) (a+d*2) (a+d*3) w.heap.size 0 xs W HU.out.1 (by omega) (by omega) (by omega) hn HU.out.2.1 (by omega) hne
  rw [← e1,←e2,←e3] at HMD
  have HMD2:=Lib.hid HMD
  clear HMD e1 e2 e3
  go_enter Tryz.func143,Tryz.ntmps143
  go_wp2_with fail
  rw [← HWW.out]
  clear hW
  refine HMD2.out.mono ?_
  rintro e w4 ⟨⟨j,rfl,k4⟩,⟨m,hm,c4,f4⟩,hw4⟩
  have HFIN:=Lib.hid (HBW.out w4 hw4)
  have K4:Hid (a≤j∧j<b):=Lib.hid (by omega)
  clear hw4 k4
  by_cases m0:m=0
  ·subst m0
   go_wp2_with fail
   refine bodyPost_ret (v:= .tuple #[.int .i64 (j:Nat),.int .i64 1]) (by simp [results,Tryz.results143,go_sem, *]) rfl ⟨⟨j,1,rfl,K4.out.1,K4.out.2,by omega⟩,HFIN.out⟩
  ·have t0:((m:Int)==0)=false:=by simp;omega
   by_cases m12:m=12
   ·subst m12
    go_wp2_with fail
    refine bodyPost_ret (v:= .tuple #[.int .i64 (j:Nat),.int .i64 2]) (by simp [results,Tryz.results143,go_sem, *]) rfl ⟨⟨j,2,rfl,K4.out.1,K4.out.2,by omega⟩,HFIN.out⟩
   ·have t1:((m:Int)==12)=false:=by simp;omega
    clear m0 m12
    go_wp2_with fail
    refine bodyPost_ret (v:= .tuple #[.int .i64 (j:Nat),.int .i64 0]) (by simp [results,Tryz.results143,go_sem, *]) rfl ⟨⟨j,0,rfl,K4.out.1,K4.out.2,by omega⟩,HFIN.out⟩
end
section
open Go Go.RowKit
def PdqC (g n c m:Nat):Prop:=∀(a b lim:Nat) (xs:List Int) (w:World),a≤b→b≤n→b-a≤m→U32At w g n c xs→g<w.heap.size→lim≤64→
 Calls Tryz.prog 133 #[.slice (some ⟨g,0,none⟩) n c,.int .i64 (a:Nat),.int .i64 (b:Nat),.int .i64 (lim:Nat)] w fun e w'=>e = .returned (.tuple #[])∧Srt w g n c xs w'
theorem Srt.lt {w w':World} {g n c:Nat} {xs:List Int} (h:Srt w g n c xs w') (hg:g<w.heap.size):g<w'.heap.size:=by
 obtain ⟨_,_,_,hc⟩:=h
 exact Nat.lt_of_lt_of_le hg hc.size
theorem Srt.calls {w w1:World} {g n c:Nat} {xs:List Int} {P:Program} {f:FuncId} {args:Array Value} {R:Ending→Prop} (h:Srt w g n c xs w1) (k:∀ys,U32At w1 g n c ys→Calls P f args w1 fun e w2=>R e∧Srt w1 g n c ys w2) :
  Calls P f args w1 fun e w2=>R e∧Srt w g n c xs w2:=by
 obtain ⟨ys,h1,h2,h3⟩:=h
 exact (k ys h2).mono fun e w2 ⟨q1,q2⟩=>⟨q1,Srt.trans h1 h3 q2⟩
theorem Srt.callsB {w w1:World} {g n c:Nat} {xs:List Int} {P:Program} {f:FuncId} {args:Array Value} {R:Ending→Prop} (h:Srt w g n c xs w1) (hg:g<w1.heap.size) (k:∀ys,U32At w1 g n c ys→Calls P f args w1 fun e w2=>R e∧Below w1.heap.size w1 w2) :
  Calls P f args w1 fun e w2=>R e∧Srt w g n c xs w2:=by
 obtain ⟨ys,h1,h2,h3⟩:=h
 exact (k ys h2).mono fun e w2 ⟨q1,q2⟩=>⟨q1,ys,h1,OwnF.belowB h2 q2 (fun k hk=>by simp [Value.ownBlock] at hk;omega),h3.trans (chg_of_below q2:Chg [] _ _) (fun x hx=>by cases hx)⟩
set_option maxRecDepth 200000 in
set_option maxHeartbeats 32000000 in
theorem pdq_step (g n c m:Nat) (hn:n≤1000000000) (ih:∀k,k<m→PdqC g n c k):PdqC g n c m:=by
 intro a0 b0 lim0 xs w hab hb hm h hg hl
 have HS:=Lib.hid (Srt.refl h)
 have IH:=Lib.hid ih
 clear h ih
 go_enter Tryz.func133,Tryz.ntmps133
 go_wp2_with fail
 go_loopw [1,2,3,8,9] (fun va vb vl vp vq wr=>∃(a b lim:Nat) (p q:Bool),a0≤a∧a≤b∧b≤b0∧lim≤64∧va = .int .i64 (a:Nat)∧vb = .int .i64 (b:Nat)∧vl = .int .i64 (lim:Nat)∧vp = .bool p∧vq = .bool q∧Srt w g n c xs wr) (fun va vb _ _ _ _=>(intOf vb-intOf va).toNat)
 case atStart=>exact ⟨a0,b0,lim0,true,true,Nat.le_refl _,hab,Nat.le_refl _,hl,rfl,rfl,rfl,rfl,rfl,HS.out⟩
 case round=>
  obtain ⟨a,b,lim,p,q,r1,r2,r3,r4,rfl,rfl,rfl,rfl,rfl,hs⟩:=hrel
  have HS:=Lib.hid hs
  have hgr:=hs.lt hg
  clear hs
  obtain ⟨l,hll⟩:∃l,l=b-a:=⟨_,rfl⟩
  have l1:(b:Int)-(a:Int)=(l:Int):=by omega
  have l2:a+l≤b:=by omega
  have l3:b≤a+l:=by omega
  clear hll
  by_cases h12:l≤12
  ·have h12i:(l:Int)≤12:=by omega
   have HC:=Lib.hid (HS.out.calls (fun ys hy=>ins_any g n c a b ys wr hy (by omega) (by omega) hn))
   go_wp2_with fail
   refine HC.out.mono ?_
   rintro e w2 ⟨rfl,h2⟩
   have H2:=Lib.hid h2
   clear h2
   go_wp2_with fail
   exact bodyPost_ret (results_none rfl _ _ _) rfl ⟨rfl,H2.out⟩
  ·have h12i:¬(l:Int)≤12:=by omega
   by_cases hl0:lim=0
   ·subst hl0
    have HC:=Lib.hid (HS.out.calls (fun ys hy=>heap_any g n c a b ys wr hy (by omega) (by omega) hn))
    go_wp2_with fail
    refine HC.out.mono ?_
    rintro e w2 ⟨rfl,h2⟩
    have H2:=Lib.hid h2
    clear h2
    go_wp2_with fail
    exact bodyPost_ret (results_none rfl _ _ _) rfl ⟨rfl,H2.out⟩
   ·have hl1:((lim:Int)==0)=false:=by simp;omega
    have hl2:(lim==0)=false:=by simp;omega
    have hl3:1≤lim:=by omega
    clear hl0
    go_upto_if 35 with fail
    go_cut [3] (fun v wr=>∃lim':Nat,lim'≤64∧v = .int .i64 (lim':Nat)∧Srt w g n c xs wr)
    case first=>
     cases p with
     | true=>
      go_wp2_with fail
      go_meet
      exact ⟨lim,r4,rfl,HS.out⟩
     | false=>
      have HC:=Lib.hid (HS.out.calls (fun ys hy=>break_any g n c a b ys wr hy (by omega) (by omega) hn hgr))
      go_wp2_with fail
      refine HC.out.mono ?_
      rintro e w2 ⟨rfl,h2⟩
      have H2:=Lib.hid h2
      clear h2
      go_wp2_with fail
      go_meet
      exact ⟨lim-1,by omega,by go_num,H2.out⟩
    obtain ⟨lim',hl',rfl,hs⟩:=hcut
    have hgc:=hs.lt hg
    have HS:=Lib.hid hs
    clear hs hgr
    have HC:=Lib.hid (HS.out.callsB hgc (fun ys hy=>pivot_any g n c a b ys wc hy (by omega) (by omega) hn hgc))
    go_upto_if 50 with ((with_reducible refine HC.out.mono ?_);rintro e w2 ⟨⟨pv,ht,rfl,v1,v2,v3⟩,h2⟩;have H2:=Lib.hid h2;clear h2)
    obtain ⟨wo,hwo⟩:∃wo:World,wo=w2:=⟨_,rfl⟩
    subst hwo
    have hg2:=H2.out.lt hg
    go_cut [11,12] (fun vp vh wr=>∃p1 h1:Nat,a≤p1∧p1<b∧h1≤2∧vp = .int .i64 (p1:Nat)∧vh = .int .i64 (h1:Nat)∧Srt w g n c xs wr)
    case first=>
     by_cases hh:ht=2
     ·subst hh
      have HC:=Lib.hid (H2.out.calls (fun ys hy=>rev_any g n c a b ys wo hy (by omega) (by omega) hn))
      have e1:(b:Int)-1-((pv:Int)-(a:Int))=((b-1-(pv-a):Nat):Int):=by omega
      obtain ⟨p1,hp1⟩:∃p1,p1=b-1-(pv-a):=⟨_,rfl⟩
      rw [← hp1] at e1
      have HP1:Hid (a≤p1∧p1<b):=Lib.hid (by omega)
      clear hp1
      go_wp2_with fail
      refine HC.out.mono ?_
      rintro e w3 ⟨rfl,h3⟩
      have H3:=Lib.hid h3
      clear h3
      go_wp2_with fail
      go_meet
      exact ⟨p1,1,HP1.out.1,HP1.out.2,by omega,rfl,rfl,H3.out⟩
     ·have hh1:((ht:Int)==2)=false:=by simp;omega
      go_wp2_with fail
      go_meet
      exact ⟨pv,ht,v1,v2,v3,rfl,rfl,H2.out⟩
    obtain ⟨p1,h1,p11,p12,h12',rfl,rfl,hs⟩:=hcut
    have hg3:=hs.lt hg
    have HS:=Lib.hid hs
    clear hs H2
    go_upto_region 15 with fail
    go_cut [68] (fun v wr=>∃t:Bool,v = .bool t∧Srt w g n c xs wr)
    case first=>
     cases p with
     | false=>
      go_wp2_with fail
      go_meet
      exact ⟨false,rfl,HS.out⟩
     | true=>
      cases q with
      | false=>
       go_wp2_with fail
       go_meet
       exact ⟨false,rfl,HS.out⟩
      | true=>
       by_cases hh:h1=1
       ·subst hh
        go_wp2_with fail
        go_meet
        exact ⟨true,rfl,HS.out⟩
       ·have hh1:((h1:Int)==1)=false:=by simp;omega
        go_wp2_with fail
        go_meet
        exact ⟨false,rfl,HS.out⟩
    obtain ⟨t,rfl,hs⟩:=hcut
    have hg4:=hs.lt hg
    have HS:=Lib.hid hs
    clear hs
    go_upto_if 68 with fail
    go_cut [68] (fun v wr=>∃t:Bool,v = .bool t∧Srt w g n c xs wr)
    case first=>
     cases t with
     | true=>
      have HC:=Lib.hid (HS.out.calls (fun ys hy=>partial_any g n c a b ys wc hy (by omega) (by omega) hn))
      go_wp2_with fail
      refine HC.out.mono ?_
      rintro e w3 ⟨⟨q3,rfl⟩,h3⟩
      have H3:=Lib.hid h3
      clear h3
      cases q3 with
      | true=>
       go_wp2_with fail
       exact bodyPost_ret (results_none rfl _ _ _) rfl ⟨rfl,H3.out⟩
      | false=>
       go_wp2_with fail
       go_meet
       exact ⟨true,rfl,H3.out⟩
     | false=>
      go_wp2_with fail
      go_meet
      exact ⟨false,rfl,HS.out⟩
    obtain ⟨t2,rfl,hs⟩:=hcut
    have hg5:=hs.lt hg
    obtain ⟨wo5,hwo5⟩:∃wo5:World,wo5=wc:=⟨_,rfl⟩
    have HS:=Lib.hid hs
    clear hs
    go_upto_region 17 with fail
    go_cut [87] (fun v wr=>∃t:Bool,v = .bool t∧Srt w g n c xs wr)
    case first=>
     obtain ⟨ys,hp,hu,hc⟩:=HS.out
     have HP:=Lib.hid (And.intro hp (And.intro hu hc))
     clear hp hc
     by_cases ha0:0<a
     ·have ha1:(0:Int)<(a:Int):=by omega
      have ha2:((a:Int)-1).toNat=a-1:=by omega
      have ha3:(0:Int)≤(a:Int)-1:=by omega
      have ha4:(a:Int)-1<(n:Int):=by omega
      have ha5:=wrapN ((a:Int)-1) (by omega) (by omega)
      have ha6:(p1:Int)<(n:Int):=by omega
      have ha7:p1<n:=by omega
      have ha8:a-1<n:=by omega
      obtain ⟨c0,_⟩:=hu.cell (k:=a-1) (by omega)
      obtain ⟨c1,_⟩:=hu.cell (k:=p1) (by omega)
      generalize hx0:ys[a-1]?.getD 0=x at *
      generalize hx1:ys[p1]?.getD 0=y at *
      obtain ⟨qq,hqq⟩:=less_some x y
      have HQ:=Lib.hid hqq
      clear hu hqq hx0 hx1
      cases qq with
      | true=>
       go_quiet ((go_at_call 146;exact q_same (HQ.out _)))
       go_wp2_with fail
       go_meet
       exact ⟨false,rfl,Srt.drewN ⟨ys,HP.out.1,HP.out.2.1,HP.out.2.2⟩ _⟩
      | false=>
       go_quiet ((go_at_call 146;exact q_same (HQ.out _)))
       go_wp2_with fail
       go_meet
       exact ⟨true,rfl,Srt.drewN ⟨ys,HP.out.1,HP.out.2.1,HP.out.2.2⟩ _⟩
     ·have ha1:¬(0:Int)<(a:Int):=by omega
      have ha2:decide (0<a)=false:=by simpa using ha0
      clear hu
      go_quiet (fail)
      go_wp2_with fail
      go_meet
      exact ⟨false,rfl,Srt.drewN ⟨ys,HP.out.1,HP.out.2.1,HP.out.2.2⟩ _⟩
    obtain ⟨t3,rfl,hs⟩:=hcut
    have hg6:=hs.lt hg
    have HS:=Lib.hid hs
    clear hs hwo5
    cases t3 with
    | true=>
     have HC:=Lib.hid (HS.out.calls (fun ys hy=>parteq_any g n c a b p1 ys wc hy (by omega) (by omega) (by omega) hn))
     go_wp2_with fail
     refine HC.out.mono ?_
     rintro e w3 ⟨⟨m3,rfl,m31,m32⟩,h3⟩
     have H3:=Lib.hid h3
     clear h3
     go_wp2_with fail
     go_roundw
     case rel=>exact ⟨m3,b,lim',_,_,by omega,by omega,by omega,hl',rfl,rfl,rfl,rfl,rfl,H3.out⟩
     case measure=>simp [intOf]<;>omega
    | false=>
     have HC:=Lib.hid (HS.out.calls (fun ys hy=>part_any g n c a b p1 ys wc hy (by omega) (by omega) (by omega) hn))
     go_wp2_with fail
     refine HC.out.mono ?_
     rintro e w3 ⟨⟨m3,q3,rfl,m31,m32⟩,h3⟩
     have hg7:=h3.lt hg
     have HCL:=Lib.hid (h3.calls (fun ys hy=>IH.out (m3-a) (by omega) a m3 lim' ys w3 (by omega) (by omega) (by omega) hy hg7 hl'))
     have HCR:=h3.calls (fun ys hy=>IH.out (b-(m3+1)) (by omega) (m3+1) b lim' ys w3 (by omega) (by omega) (by omega) hy hg7 hl')
     rw [show ((m3+1:Nat):Int)=(m3:Int)+1 by omega] at HCR
     have HCR2:=Lib.hid HCR
     clear h3 HCR
     by_cases hlr:(m3:Int)-(a:Int)<(b:Int)-(m3:Int)
     ·go_wp2_with fail
      refine HCL.out.mono ?_
      rintro e w4 ⟨rfl,h4⟩
      have H4:=Lib.hid h4
      clear h4
      go_wp2_with fail
      go_roundw
      case rel=>exact ⟨m3+1,b,lim',_,_,by omega,by omega,by omega,hl',by go_num,rfl,rfl,rfl,rfl,H4.out⟩
      case measure=>simp [intOf]<;>omega
     ·go_wp2_with fail
      refine HCR2.out.mono ?_
      rintro e w4 ⟨rfl,h4⟩
      have H4:=Lib.hid h4
      clear h4
      go_wp2_with fail
      go_roundw
      case rel=>exact ⟨a,m3,lim',_,_,by omega,by omega,by omega,hl',rfl,rfl,rfl,rfl,rfl,H4.out⟩
      case measure=>simp [intOf]<;>omega
theorem pdq_any (g n c:Nat) (hn:n≤1000000000):∀m,PdqC g n c m:=fun m=>Nat.strongRecOn m fun m ih=>pdq_step g n c m hn ih
set_option maxRecDepth 100000 in
set_option maxHeartbeats 8000000 in
theorem sort_any (g n c:Nat) (xs:List Int) (w:World) (h:U32At w g n c xs) (hn:n≤1000000000) (hg:g<w.heap.size) :
  Calls Tryz.prog 122 #[.slice (some ⟨g,0,none⟩) n c] w fun e w'=>e = .returned (.tuple #[])∧Srt w g n c xs w':=by
 have HL:=Lib.hid (fun W=>Tryz.bits_Len (n:Nat) W (by omega) (by omega))
 rw [show ((n:Nat):Int).toNat=n from rfl] at HL
 have h32:Lib.bitLen n≤32:=Lib.bitLen_le n 32 (by omega) (by omega)
 have HC:=Lib.hid (pdq_any g n c hn n 0 n (Lib.bitLen n) xs w (Nat.zero_le _) (Nat.le_refl _) (by omega) h hg (by omega))
 generalize Lib.bitLen n=k at *
 have hc:IntKind.u64.wrap (n:Int)=(n:Int):=wrap_u64n _ (by omega)
 clear h
 go_enter Tryz.func122,Tryz.ntmps122
 go_wp2_with fail
 refine (HL.out _).mono ?_
 rintro e w1 ⟨rfl,rfl⟩
 go_wp2_with fail
 refine HC.out.mono ?_
 rintro e w2 ⟨rfl,h2⟩
 go_wp2_with fail
 go_end0
 exact ⟨rfl,h2⟩
end
end
end Go.Proofs.YtnlmlehcpngcgaaGreat
