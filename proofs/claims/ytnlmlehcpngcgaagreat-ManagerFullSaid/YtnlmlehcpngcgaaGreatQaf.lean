/- Contracts: arena.New, Len, Room, Get of nothing, Put. -/
import Derived.Test.YtnlmlehcpngcgaaGreatQae
import Derived.Deep.RegionLaw
import Derived.Deep.AppendLies
namespace Go.Proofs.YtnlmlehcpngcgaaGreat
set_option linter.unusedSimpArgs false
set_option linter.unusedVariables false
section
open Go.RowKit
theorem arenaGet_none (F:List Nat) (g:Nat) (cs:List (Option Rec)) (free:List Int) (room:Nat) (id:Int) (w:World) (h:ArenaAt w F g cs free room) (h0:0≤id) (hid:id≤4294967295) (hr:recAt cs id=none) :
  Calls Tryz.prog 76 #[.pointer (some ⟨g,0,none⟩),.int .u32 id] w fun e w'=>e = .returned (.tuple #[.agg Rec.nil.cells.toArray,.bool false])∧Below w.heap.size w w':=by
 have HA:=Lib.hid h
 have HR:=Lib.hid hr
 clear h hr
 go_enter Tryz.func76,Tryz.ntmps76
 go_wp2_with fail
 refine (arenaAt_none F g cs free room id _ (HA.out.on ((Below.refl _ _).alloc (Nat.le_refl _) _)) h0 hid HR.out).mono ?_
 rintro e w' ⟨rfl,rfl⟩
 go_wp2_with fail
 exact bodyPost_ret (v:= .tuple #[.agg Rec.nil.cells.toArray,.bool false]) (by simp [results,Tryz.results76,go_sem,Rec.nil,Rec.cells,Edg.nil]) rfl ⟨rfl,((Below.refl _ _).alloc (Nat.le_refl _) _).alloc (by simp) _⟩
theorem arenaLen_any (F:List Nat) (g:Nat) (cs:List (Option Rec)) (free:List Int) (room:Nat) (w:World) (h:ArenaAt w F g cs free room) :
  Calls Tryz.prog 47 #[.pointer (some ⟨g,0,none⟩)] w fun e w'=>e = .returned (.int .i64 (cntC cs:Nat))∧w=w':=by
 obtain ⟨A,n,c,A',n',c',hB,hS,hF,hn,hn',rfl,hnd⟩:=h
 have hc0:w.cell? ⟨g,2,none⟩=some (.int .i64 (cntC cs:Nat)):=hB.cell 2
 clear hn hn' hB hS hF
 go_enter Tryz.func47,Tryz.ntmps47
 go_wp2_with fail
 go_ret
 exact ⟨rfl,rfl⟩
theorem arenaNew_yes (room:Int) (w:World) (h0:0≤room) (h1:room≤1048576) :
  Calls Tryz.prog 31 #[.int .i64 room] w fun e w'=>∃F,e = .returned (.tuple #[.pointer (some ⟨w.heap.size,0,none⟩),.int .u8 0])∧ArenaAt w' F w.heap.size [] [] room.toNat∧(∀ k∈F,w.heap.size≤k)∧Below w.heap.size w w':=by
 obtain ⟨k,rfl⟩:=Int.eq_ofNat_of_zero_le h0
 go_enter Tryz.func31,Tryz.ntmps31
 go_wp2_with fail
 go_ret2
 exact ⟨[w.heap.size],rfl,⟨_,_,_,_,_,_,Blk.new _ _ _,OwnS.nil_,OwnF.nil_,rfl,rfl,rfl,by simp [blk,Value.ownBlock]⟩,by simp,(Below.refl _ _).alloc (Nat.le_refl _) _⟩
theorem info_cell:(Tryz.prog.info? 185).map (fun i=>(i.zero,i.size,i.bytes))=some (some (.agg (cellEnc none).toArray),9,32):=by kernel_rfl
set_option maxHeartbeats 1000000 in
theorem arenaPut_full (F:List Nat) (g:Nat) (cs:List (Option Rec)) (free:List Int) (room:Nat) (r:Rec) (w:World) (h:ArenaAt w F g cs free room) (hfull:room≤cntC cs) :
  Calls Tryz.prog 131 #[.pointer (some ⟨g,0,none⟩),.agg r.cells.toArray] w fun e w'=>e = .returned (.tuple #[.int .u32 0,.bool false])∧Below w.heap.size w w':=by
 obtain ⟨A,n,c,A',n',c',hB,hS,hF,hn,hn',rfl,hnd⟩:=h
 have hlt:=hB.lt
 have hc2:w.cell? ⟨g,2,none⟩=some (.int .i64 (cntC cs:Nat)):=hB.cell 2
 have hc3:w.cell? ⟨g,3,none⟩=some (.int .i64 (room:Nat)):=hB.cell 3
 have hne:¬g=w.heap.size:=by omega
 have hfi:(room:Int)≤(cntC cs:Nat):=by omega
 have hdd:decide ((room:Int)≤(cntC cs:Nat))=true:=by simpa using hfi
 clear hn hn' hB hS hF
 go_enter Tryz.func131,Tryz.ntmps131
 go_wp2_with fail
 go_quiet (fail)
 go_wp2_with fail
 go_ret2
 exact ⟨rfl,below_drewN ((Below.refl _ _).alloc (Nat.le_refl _) _) _⟩
theorem Blk.new_at {w:World} {H:Nat} (h:w.heap.size=H) (t:TypeId) (cs:Array Value):Blk (w.alloc (.cells cs t)) H t cs:=by subst h;exact Blk.new w t cs
theorem wp_gen {P:Program} {c:Code} {Q:Exit→Act→World→Prop} {a:Act} {w:World} (R:World→Prop) (h:R w) (k:∀W,R W→c.wp P Q a W):c.wp P Q a w:=k w h
theorem cntC_snoc (cs:List (Option Rec)) (r:Rec):cntC (cs++[some r])=cntC cs+1:=by unfold cntC;rw [List.countP_append];rfl
def Turns (A:World→List Nat→Prop) (F:List Nat) (w w':World):Prop:=(∃ F',A w' F'∧(∀ k∈F',k∈F∨w.heap.size≤k))∧Chg F w w'
theorem ret_pair {k:IntKind} {a b:Int} {c:Value} (h:a=b):Ending.returned (.tuple #[.int k a,c]) = .returned (.tuple #[.int k b,c]):=by rw [h]
theorem chg_of_grown {w w':World} {row:Option Nat} {F:List Nat} (h:w.grownBy w' row) (hF:∀k,row=some k→k∈F):Chg F w w':=
 ⟨h.os,h.tape,h.output,h.size,fun k hk hn=>h.block k hk (fun e=>hn (hF k e.symm))⟩
theorem arenaPut_end {w W w1:World} {F:List Nat} {g n c c' g1 cap room:Nat} {A A':Option Addr} {cs:List (Option Rec)} {r:Rec} {O:Obj} (hch:Chg [g] w W) (hF:F=g::(blk (.slice A n c)++blk (.slice A' 0 c'))) (hlt:∀k∈F,k<w.heap.size) (hnd:F.Nodup)
  (hBW:Blk W g 125 #[.slice A n c,.slice A' 0 c',.int .i64 (cntC cs+1),.int .i64 (room:Nat)]) (hFW:OwnF (Value.int .u32) 46 W 0 (.slice A' 0 c') [])
  (hgrow:((W.alloc O).drew).grownBy w1 (Value.slice A n c).ownBlock) (hown:w1.ownsRow 0 185 9 (.slice (some ⟨g1,0,none⟩) (cs.length+1) cap) (cs.length+1) (cs.flatMap cellEnc++cellEnc (some r)))
  (hat:(Value.slice A n c).ownBlock=some g1∨g1=((W.alloc O).drew).heap.size) :
  (∃ F',ArenaAt (w1.setCell ⟨g,0,none⟩ (.slice (some ⟨g1,0,none⟩) (cs.length+1) cap)) F' g (cs++[some r]) [] room∧(∀ k∈F',k∈F∨w.heap.size≤k))∧Chg F w (w1.setCell ⟨g,0,none⟩ (.slice (some ⟨g1,0,none⟩) (cs.length+1) cap)):=by
 subst hF
 have hgW:g<W.heap.size:=hBW.lt
 have hsz:=hch.size
 rw [List.nodup_cons,List.nodup_append] at hnd
 obtain ⟨hn1,_,_,hn2⟩:=hnd
 have hrow:∀k,(Value.slice A n c).ownBlock=some k→k∈blk (.slice A n c):=fun k hk=>mem_blk.2 hk
 have hgne:some g≠(Value.slice A n c).ownBlock:=fun e=>hn1 (by simp [hrow g e.symm])
 have hg1:g1≠g:=by
  rintro rfl
  rcases hat with h|h
  ·exact hgne h.symm
  ·simp at h;omega
 have hchW1:Chg (blk (.slice A n c)) W w1:=(((Chg.refl (blk (.slice A n c)) W).alloc O).drew).trans (chg_of_grown hgrow hrow) (fun x hx=> .inl hx)
 have hset:Chg [g] w1 (w1.setCell ⟨g,0,none⟩ (.slice (some ⟨g1,0,none⟩) (cs.length+1) cap)):=(Chg.refl _ _).setCell (.inl (by simp)) _
 have hB1:Blk w1 g _ _:=hBW.chg hchW1 (fun h=>hn1 (by simp [h]))
 have hF1:OwnF (Value.int .u32) 46 w1 0 (.slice A' 0 c') []:=hFW.chg hchW1 (fun k hk hm=>hn2 k hm k hk rfl)
 refine ⟨⟨g::(blk (.slice (some ⟨g1,0,none⟩) (cs.length+1) cap)++blk (.slice A' 0 c')),⟨_,_,_,_,_,_,?_,?_,?_,by simp,rfl,rfl,?_⟩,?_⟩,?_⟩
 ·have:=hB1.set_ 0 (.slice (some ⟨g1,0,none⟩) (cs.length+1) cap)
  rw [cntC_snoc,Int.natCast_add]
  exact this
 ·have h1:OwnS 9 cellEnc 185 w1 0 (.slice (some ⟨g1,0,none⟩) (cs.length+1) cap) (cs++[some r]):=by
   unfold OwnS
   rw [List.flatMap_append,List.length_append]
   simpa using hown
  exact h1.chg hset (fun k hk hm=>by simp [mem_blk,Value.ownBlock] at hk hm;omega)
 ·exact hF1.chg hset (fun k hk hm=>by simp at hm;subst hm;exact hn1 (by simp [hk]))
 ·rw [List.nodup_cons,List.nodup_append]
  refine ⟨fun h=>?_,?_,?_,fun a ha b hb=>?_⟩
  ·rcases List.mem_append.1 h with h|h
   ·simp [mem_blk,Value.ownBlock] at h;omega
   ·exact hn1 (by simp [h])
  ·simp [blk,Value.ownBlock]
  ·unfold blk;cases (Value.slice A' 0 c').ownBlock<;>simp
  ·rintro rfl
   simp [mem_blk,Value.ownBlock] at ha
   subst ha
   rcases hat with h|h
   ·exact hn2 g1 (hrow g1 h) g1 hb rfl
   ·have:=hlt g1 (by simp [hb])
    simp at h;omega
 ·intro k hk
  rcases List.mem_cons.1 hk with rfl|hk
  ·exact .inl (by simp)
  ·rcases List.mem_append.1 hk with hk|hk
   ·simp [mem_blk,Value.ownBlock] at hk
    subst hk
    rcases hat with h|h
    ·exact .inl (by simp [hrow g1 h])
    ·right;simp at h;omega
   ·exact .inl (by simp [hk])
 ·exact ((hch.mono (G:=g::(blk (.slice A n c)++blk (.slice A' 0 c'))) (fun x hx=> .inl (by simp at hx;simp [hx]))).trans hchW1 (fun x hx=> .inl (by simp [hx]))).trans hset (fun x hx=> .inl (by simp at hx;simp [hx]))
set_option maxHeartbeats 2000000 in
theorem arenaPut_new (F:List Nat) (g:Nat) (cs:List (Option Rec)) (room:Nat) (r:Rec) (w:World) (h:ArenaAt w F g cs [] room) (hfull:cntC cs<room) (hroom:room≤1048576) (hlen:cs.length≤1048576) :
  Calls Tryz.prog 131 #[.pointer (some ⟨g,0,none⟩),.agg r.cells.toArray] w fun e w'=>e = .returned (.tuple #[.int .u32 (cs.length+2:Nat),.bool true])∧Turns (fun W X=>ArenaAt W X g (cs++[some r]) [] room) F w w':=by
 have hltF:=h.lt
 obtain ⟨A,n,c,A',n',c',hB,hS,hF,hn,hn',rfl,hnd⟩:=h
 have hlt:=hB.lt
 have hc0:w.cell? ⟨g,0,none⟩=some (.slice A n c):=hB.cell 0
 have hc1:w.cell? ⟨g,1,none⟩=some (.slice A' n' c'):=hB.cell 1
 have hc2:w.cell? ⟨g,2,none⟩=some (.int .i64 (cntC cs:Nat)):=hB.cell 2
 have hc3:w.cell? ⟨g,3,none⟩=some (.int .i64 (room:Nat)):=hB.cell 3
 have hfz:∀k,w.frozen? ⟨g,k,none⟩=false:=fun k=>hB.frozen k
 have hne:¬g=w.heap.size:=by omega
 have hfi:(cntC cs:Nat)<(room:Int):=by omega
 have hdd:decide ((room:Int)≤(cntC cs:Nat))=false:=by simp;omega
 obtain rfl:n'=0:=by simpa using hn'.symm
 have HB:=Lib.hid hB
 have HS:=Lib.hid hS
 have HF:=Lib.hid hF
 have HND:=Lib.hid hnd
 have HLT:=Lib.hid hltF
 have HN:=Lib.hid hn
 obtain ⟨f,t,b,⟨lt,lp⟩,⟨ht,hp⟩⟩:=r
 simp only [Rec.cells]
 clear hn hn' hB hS hF hnd hltF
 go_enter Tryz.func131,Tryz.ntmps131
 go_wp2_with fail
 go_quiet (fail)
 go_wp2_with fail
 refine wp_gen (fun W=>Chg [g] w W∧Blk W g 125 #[.slice A n c,.slice A' 0 c',.int .i64 (cntC cs+1),.int .i64 (room:Nat)]∧W.heap.size=w.heap.size+2∧
  Blk W (w.heap.size+1) 185 #[.int .u8 f,.int .u8 t,.int .u8 b,.int .u8 lt,.int .u32 lp,.int .u8 ht,.int .u32 hp,.bool true,.int .i64 0]) ⟨?_,?_,?_,?_⟩ ?_
 ·exact ((((Chg.refl _ _).alloc _).drewN _).setCell (.inl (by simp)) _).alloc _
 ·exact ((HB.out.alloc _).set_ 2 _).alloc _
 ·simp
 ·exact Blk.new_at (by simp) _ _
 rintro W ⟨hch,hBW,hsz,hC⟩
 have hSW:=HS.out.chg hch (fun k hk hm=>by simp at hm;subst hm;exact (List.nodup_cons.1 HND.out).1 (by simp [hk]))
 have hFW:=HF.out.chg hch (fun k hk hm=>by simp at hm;subst hm;exact (List.nodup_cons.1 HND.out).1 (by simp [hk]))
 obtain ⟨i0,hi,hz0,hz1,hz2⟩:=info_parts info_cell
 have hown:=(hSW.alloc (.cells #[.int .u8 f,.int .u8 t,.int .u8 b,.int .u8 lt,.int .u32 lp,.int .u8 ht,.int .u32 hp,.bool true,.int .i64 0] 185)).drew
 unfold OwnS at hown
 have hnews:=World.news_of_block (heap_alloc_new W (.cells #[.int .u8 f,.int .u8 t,.int .u8 b,.int .u8 lt,.int .u32 lp,.int .u8 ht,.int .u32 hp,.bool true,.int .i64 0] 185))
 have HOWN:=Lib.hid hown
 have HNEWS:=Lib.hid hnews
 have c0:=hC.cell 0
 have c1:=hC.cell 1
 have c2:=hC.cell 2
 have c3:=hC.cell 3
 have c4:=hC.cell 4
 have c5:=hC.cell 5
 have c6:=hC.cell 6
 have c7:=hC.cell 7
 have c8:=hC.cell 8
 have hcg:W.cell? ⟨g,0,none⟩=some (.slice A n c):=hBW.cell 0
 have HBW:=Lib.hid hBW
 have HSZ:=Lib.hid hsz
 have hgW:g<W.heap.size:=by omega
 have hgN:¬g=W.heap.size:=by omega
 have hgN2:¬w.heap.size+1=W.heap.size:=by omega
 have HCH:=Lib.hid hch
 have HFW:=Lib.hid hFW
 clear hown hnews hC hBW hSW hsz hch hFW hne hfi hdd hc0 hc1 hc2 hc3 hfz hlt hfull
 have H63:Hid (cs.length+1≤maxLen):=Lib.hid (by unfold maxLen;omega)
 have HBY:Hid ((cs.length+1)*32≤140737488355328):=Lib.hid (by omega)
 have hgne:Hid (some g≠(Value.slice A n c).ownBlock):=Lib.hid (fun e=>(List.nodup_cons.1 HND.out).1 (by simp [mem_blk,←e]))
 go_region_law (refine step_append_lies _ rfl (.tmp 68) (.tmp 70) 122 rfl 0 185 i0 _ 9 32 Tryz.underlying122 hi hz0 hz1 hz2 rfl (by decide) (.slice A n c) cs.length (cs.flatMap cellEnc) rfl HOWN.out ⟨W.heap.size,0,none⟩ 1 1 _ rfl rfl HNEWS.out (cellEnc_one (some ⟨f,t,b,⟨lt,lp⟩,⟨ht,hp⟩⟩)) (by decide) H63.out HBY.out (Nat.zero_le _) _ rfl ?_;intro g1 cap w1 hown1 hgrow1 hat1 hlt1;have HO:=Lib.hid hown1;have HG:=Lib.hid hgrow1;have HA:=Lib.hid hat1;clear hown1 hgrow1 hat1;have hcg1:=(HG.out.cell_far ⟨g,0,none⟩ (by simp;omega) hgne.out).trans ((World.cell?_alloc_lt _ _ ⟨g,0,none⟩ hgW).trans hcg);have hfg1:=(HG.out.frozen_far ⟨g,0,none⟩ (by simp;omega) hgne.out).trans ((HBW.out.alloc (.cells #[.int .u8 f,.int .u8 t,.int .u8 b,.int .u8 lt,.int .u32 lp,.int .u8 ht,.int .u32 hp,.bool true,.int .i64 0] 185)).frozen 0))
 all_goals
  have hend:=arenaPut_end (r:=⟨f,t,b,⟨lt,lp⟩,⟨ht,hp⟩⟩) HCH.out rfl HLT.out HND.out HBW.out HFW.out HG.out HO.out HA.out
  have HE:=Lib.hid hend
  clear hend
  go_wp2_with fail
  go_ret2
  exact ⟨ret_pair (by omega),HE.out⟩
end
end Go.Proofs.YtnlmlehcpngcgaaGreat
