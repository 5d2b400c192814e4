/- Arenas of records in memory; contracts of at, Get, Len, Room, New. -/
import Derived.Test.YtnlmlehcpngcgaaGreatQad
namespace Go.Proofs.YtnlmlehcpngcgaaGreat
set_option linter.unusedSimpArgs false
set_option linter.unusedVariables false
section
open Go.RowKit
def cellEnc:Option Rec→List Value
 | some r=>r.cells++[.bool true,.int .i64 0]
 | none=>Rec.nil.cells++[.bool false,.int .i64 0]
theorem cellEnc_len (x:Option Rec):(cellEnc x).length=9:=by cases x<;>rfl
theorem cellEnc_one (x:Option Rec):∀u∈cellEnc x,u.oneCell'=true:=by cases x<;>simp [cellEnc,Rec.cells,Value.oneCell']
def cntC (cs:List (Option Rec)):Nat:=cs.countP Option.isSome
def ArenaAt (w:World) (F:List Nat) (g:Nat) (cs:List (Option Rec)) (free:List Int) (room:Nat):Prop:=
 ∃(A:Option Addr) (n c:Nat) (A':Option Addr) (n' c':Nat),Blk w g 125 #[.slice A n c,.slice A' n' c',.int .i64 (cntC cs:Nat),.int .i64 (room:Nat)]∧
  OwnS 9 cellEnc 185 w 0 (.slice A n c) cs∧OwnF (Value.int .u32) 46 w 0 (.slice A' n' c') free∧cs.length=n∧free.length=n'∧
  F=g::(blk (.slice A n c)++blk (.slice A' n' c'))∧F.Nodup
theorem ArenaAt.chg {w w':World} {F G:List Nat} {g:Nat} {cs:List (Option Rec)} {free:List Int} {room:Nat} (h:ArenaAt w F g cs free room) (hb:Chg G w w') (hd:∀k∈F,¬k∈G):ArenaAt w' F g cs free room:=by
 obtain ⟨A,n,c,A',n',c',h1,h2,h3,h4,h5,rfl,h7⟩:=h
 exact ⟨A,n,c,A',n',c',h1.chg hb (hd g (by simp)),h2.chg hb (fun k hk=>hd k (by simp [hk])),h3.chg hb (fun k hk=>hd k (by simp [hk])),h4,h5,rfl,h7⟩
theorem ArenaAt.lt {w:World} {F:List Nat} {g:Nat} {cs:List (Option Rec)} {free:List Int} {room:Nat} (h:ArenaAt w F g cs free room):∀k∈F,k<w.heap.size:=by
 obtain ⟨A,n,c,A',n',c',h1,h2,h3,h4,h5,rfl,h7⟩:=h
 intro k hk
 rcases List.mem_cons.1 hk with rfl|hk
 ·exact h1.lt
 ·rcases List.mem_append.1 hk with hk|hk
  ·exact OwnS.blk_lt h2 k hk
  ·exact OwnF.blk_lt h3 k hk
theorem ArenaAt.on {w w':World} {F:List Nat} {g:Nat} {cs:List (Option Rec)} {free:List Int} {room:Nat} (h:ArenaAt w F g cs free room) (hb:Below w.heap.size w w'):ArenaAt w' F g cs free room:=
 h.chg (G:=[]) (chg_of_below hb) (fun _ _ h=>by cases h)
theorem ArenaAt.nodup {w:World} {F:List Nat} {g:Nat} {cs:List (Option Rec)} {free:List Int} {room:Nat} (h:ArenaAt w F g cs free room):F.Nodup:=by
 obtain ⟨A,n,c,A',n',c',h1,h2,h3,h4,h5,h6,h7⟩:=h
 exact h7
theorem rangeAt_old {w:World} {o:Obj} {b k:Nat} {cs:List Value} (h:(w.alloc o).rangeAt b k cs) (hb:b<w.heap.size):w.rangeAt b k cs:=fun j v hv=>by
 rw [← World.cell?_alloc_lt w o ⟨b,k+j,none⟩ hb];exact h j v hv
theorem recAt_some {cs:List (Option Rec)} {id:Int} {r:Rec} (h:recAt cs id=some r):2≤id∧(id-2).toNat<cs.length∧cs[(id-2).toNat]? =some (some r):=by
 unfold recAt at h
 split at h
 ·rename_i h2
  cases hx:cs[(id-2).toNat]? with
  | none=>rw [hx] at h;cases h
  | some x=>
   rw [hx] at h
   exact ⟨h2,(List.getElem?_eq_some_iff.1 hx).1,by rw [show x=some r from h]⟩
 ·cases h
theorem arenaAt_some (F:List Nat) (g:Nat) (cs:List (Option Rec)) (free:List Int) (room:Nat) (id:Int) (r:Rec) (w:World) (h:ArenaAt w F g cs free room) (hid:id≤4294967295) (hr:recAt cs id=some r) :
  Calls Tryz.prog 100 #[.pointer (some ⟨g,0,none⟩),.int .u32 id] w fun e w'=>(∃ b,b∈F∧b≠g∧e = .returned (.pointer (some ⟨b,(id-2).toNat*9,none⟩))∧w.rangeAt b ((id-2).toNat*9) (cellEnc (some r))∧w.there b ((id-2).toNat*9) 9)∧w=w':=by
 obtain ⟨A,n,c,A',n',c',hB,hS,hF,hn,hn',rfl,hnd⟩:=h
 obtain ⟨h2,hlt,hget⟩:=recAt_some hr
 obtain ⟨b,c0,hv,_,hbl,hcl⟩:=OwnS.head hS (by omega)
 injection hv with e1 e2 e3
 subst e1
 subst e3
 have hat:=OwnS.at_ cellEnc_len hS _ _ hget
 have HAT:=Lib.hid hat
 have hb:b≠g:=by
  rintro rfl
  simp [blk,Value.ownBlock] at hnd
 have hc0:w.cell? ⟨g,0,none⟩=some (.slice (some ⟨b,0,none⟩) n c):=hB.cell 0
 have hin:=hat.1 7 (.bool true) rfl
 have hlen:id-2<(n:Int):=by omega
 clear hat hB hS hF hn' hn hget hr e2
 go_enter Tryz.func100,Tryz.ntmps100
 go_wp2_with fail
 go_ret
 exact ⟨⟨b,by simp [blk,Value.ownBlock],hb,rfl,HAT.out.1,HAT.out.2⟩,rfl⟩
theorem recAt_none {cs:List (Option Rec)} {id:Int} (h:recAt cs id=none):id<2∨(cs.length:Int)≤id-2∨(2≤id∧cs[(id-2).toNat]? =some none):=by
 unfold recAt at h
 split at h
 ·rename_i h2
  cases hx:cs[(id-2).toNat]? with
  | none=>rw [List.getElem?_eq_none_iff] at hx;right;left;omega
  | some x=>
   rw [hx] at h
   exact .inr (.inr ⟨h2,by rw [show x=none from h]⟩)
 ·left;omega
theorem arenaAt_none (F:List Nat) (g:Nat) (cs:List (Option Rec)) (free:List Int) (room:Nat) (id:Int) (w:World) (h:ArenaAt w F g cs free room) (h0:0≤id) (hid:id≤4294967295) (hr:recAt cs id=none) :
  Calls Tryz.prog 100 #[.pointer (some ⟨g,0,none⟩),.int .u32 id] w fun e w'=>e = .returned (.pointer none)∧w=w':=by
 obtain ⟨A,n,c,A',n',c',hB,hS,hF,hn,hn',rfl,hnd⟩:=h
 have hc0:w.cell? ⟨g,0,none⟩=some (.slice A n c):=hB.cell 0
 by_cases h2:id<2
 ·clear hr hn hn' hB hS hF
  go_enter Tryz.func100,Tryz.ntmps100
  go_wp2_with fail
  go_ret
  exact ⟨rfl,rfl⟩
 ·by_cases h3:(n:Int)≤id-2
  ·clear hr hn hn' hB hS hF
   go_enter Tryz.func100,Tryz.ntmps100
   go_wp2_with fail
   go_ret
   exact ⟨rfl,rfl⟩
  ·have hget:cs[(id-2).toNat]? =some none:=by
    rcases recAt_none hr with h4|h4|h4
    ·omega
    ·omega
    ·exact h4.2
   obtain ⟨b,c0,hv,_,hbl,hcl⟩:=OwnS.head hS (by omega)
   injection hv with e1 e2 e3
   subst e1
   subst e3
   have hin:=(OwnS.at_ cellEnc_len hS _ _ hget).1 7 (.bool false) rfl
   clear hB hS hF hn' hn hget hr e2
   go_enter Tryz.func100,Tryz.ntmps100
   go_wp2_with fail
   go_ret
   exact ⟨rfl,rfl⟩
set_option maxHeartbeats 1000000 in
theorem arenaGet_some (F:List Nat) (g:Nat) (cs:List (Option Rec)) (free:List Int) (room:Nat) (id:Int) (r:Rec) (w:World) (h:ArenaAt w F g cs free room) (hid:id≤4294967295) (hr:recAt cs id=some r) :
  Calls Tryz.prog 76 #[.pointer (some ⟨g,0,none⟩),.int .u32 id] w fun e w'=>e = .returned (.tuple #[.agg r.cells.toArray,.bool true])∧Below w.heap.size w w':=by
 have HA:=Lib.hid h
 have HR:=Lib.hid hr
 clear h hr
 go_enter Tryz.func76,Tryz.ntmps76
 go_wp2_with fail
 refine (arenaAt_some F g cs free room id r _ (HA.out.on ((Below.refl _ _).alloc (Nat.le_refl _) _)) hid HR.out).mono ?_
 rintro e w' ⟨⟨b,hbF,hbg,rfl,hrg,hth⟩,rfl⟩
 have hblt:b<w.heap.size:=HA.out.lt b hbF
 have hrg:=rangeAt_old hrg hblt
 obtain ⟨f,t,bt,⟨lt,lp⟩,⟨ht,hp⟩⟩:=r
 have c0:w.cell? ⟨b,(id-2).toNat*9,none⟩=some (.int .u8 f):=hrg 0 _ rfl
 have c1:=hrg 1 _ rfl
 have c2:=hrg 2 _ rfl
 have c3:=hrg 3 _ rfl
 have c4:=hrg 4 _ rfl
 have c5:=hrg 5 _ rfl
 have c6:=hrg 6 _ rfl
 have hne:¬b=w.heap.size:=by omega
 have HG:=Lib.hid hrg
 clear hrg hth hbF hbg
 go_wp2_with fail
 exact bodyPost_ret (v:= .tuple #[.agg #[.int .u8 f,.int .u8 t,.int .u8 bt,.int .u8 lt,.int .u32 lp,.int .u8 ht,.int .u32 hp],.bool true]) (by simp [results,Tryz.results76,go_sem]) rfl ⟨rfl,(Below.refl _ _).alloc (Nat.le_refl _) _⟩
end
end Go.Proofs.YtnlmlehcpngcgaaGreat
