/- The jobs of apply as keys: their hash. The cache of apply: its state; contract of at. -/
import Derived.Test.YtnlmlehcpngcgaaGreatQaz
namespace Go.Proofs.YtnlmlehcpngcgaaGreat
set_option linter.unusedSimpArgs false
set_option linter.unusedVariables false
section
open Go.RowKit Go.Sort
structure Jb where
 f:Int
 op:Int
 l:Int
 a:Edg
 b:Edg
 c:Edg
deriving DecidableEq
def Jb.cells (j:Jb):List Value:=[.int .u8 j.f,.int .u8 j.op,.int .u8 j.l,.int .u8 j.a.tag,.int .u32 j.a.pos,.int .u8 j.b.tag,.int .u32 j.b.pos,.int .u8 j.c.tag,.int .u32 j.c.pos]
theorem mixA_any (a b:Int) (w:World):Calls Tryz.prog 178 #[.int .u64 a,.int .u64 b] w fun e w'=>e = .returned (.int .u64 (mixV a b))∧w=w':=by
 go_enter Tryz.func178,Tryz.ntmps178
 go_wp2_with fail
 go_ret
 exact ⟨rfl,rfl⟩
def edgeV (e:Edg):Int:=bits .or .u64 (e.tag*4294967296) e.pos
theorem edgeA_any (e:Edg) (w:World) (he:e.Wf):Calls Tryz.prog 179 #[.agg e.cells.toArray] w fun r w'=>r = .returned (.int .u64 (edgeV e))∧Below w.heap.size w w':=by
 obtain ⟨t,q⟩:=e
 obtain ⟨e1,e2,e3,e4⟩:=he
 simp only [Edg.cells] at e1 e2 e3 e4 ⊢
 go_enter Tryz.func179,Tryz.ntmps179
 go_wp2_with fail
 go_ret
 exact ⟨rfl,(Below.refl _ _).alloc (Nat.le_refl _) _⟩
def Jb.Wf (j:Jb):Prop:=(0≤j.f∧j.f≤255)∧(0≤j.op∧j.op≤255)∧(0≤j.l∧j.l≤255)∧j.a.Wf∧j.b.Wf∧j.c.Wf
def hashAV (j:Jb):Int:=mixV (mixV (mixV (mixV (bits .or .u64 (bits .or .u64 (j.f*65536) (j.op*256)) j.l) 1) (edgeV j.a)) (edgeV j.b)) (edgeV j.c)
theorem hashAV_range (j:Jb):0≤hashAV j∧hashAV j≤18446744073709551615:=mixV_range _ _
set_option maxRecDepth 100000 in
set_option maxHeartbeats 8000000 in
theorem hashA_any (j:Jb) (w:World) (hj:j.Wf):Calls Tryz.prog 177 #[.agg j.cells.toArray] w fun r w'=>r = .returned (.int .u64 (hashAV j))∧Below w.heap.size w w':=by
 have HJ:=Lib.hid hj
 obtain ⟨f,op,l,⟨at_,ap⟩,⟨bt,bp⟩,⟨ct,cp⟩⟩:=j
 obtain ⟨⟨f1,f2⟩,⟨o1,o2⟩,⟨l1,l2⟩,ha,hb,hc⟩:=hj
 simp only at f1 f2 o1 o2 l1 l2 ha hb hc
 obtain ⟨W,hW⟩:∃W,W=w.alloc (.cells #[.int .u8 f,.int .u8 op,.int .u8 l,.int .u8 at_,.int .u32 ap,.int .u8 bt,.int .u32 bp,.int .u8 ct,.int .u32 cp] 93):=⟨_,rfl⟩
 have hbW:Below w.heap.size w W:=by rw [hW];exact (Below.refl _ _).alloc (Nat.le_refl _) _
 have hK:Blk W w.heap.size 93 #[.int .u8 f,.int .u8 op,.int .u8 l,.int .u8 at_,.int .u32 ap,.int .u8 bt,.int .u32 bp,.int .u8 ct,.int .u32 cp]:=by rw [hW];exact Blk.new w _ _
 have cA:=regrown_calls (W:=W) (fun W' hW'=>(edgeA_any ⟨at_,ap⟩ W' ha).mono (R':=fun r w'=>r = .returned (.int .u64 (edgeV ⟨at_,ap⟩))∧Below W.heap.size W w') fun _ _ ⟨q1,q2⟩=>⟨q1,hW'.trans (q2.mono hW'.size)⟩)
 have cB:=regrown_calls (W:=W) (fun W' hW'=>(edgeA_any ⟨bt,bp⟩ W' hb).mono (R':=fun r w'=>r = .returned (.int .u64 (edgeV ⟨bt,bp⟩))∧Below W.heap.size W w') fun _ _ ⟨q1,q2⟩=>⟨q1,hW'.trans (q2.mono hW'.size)⟩)
 have cC:=regrown_calls (W:=W) (fun W' hW'=>(edgeA_any ⟨ct,cp⟩ W' hc).mono (R':=fun r w'=>r = .returned (.int .u64 (edgeV ⟨ct,cp⟩))∧Below W.heap.size W w') fun _ _ ⟨q1,q2⟩=>⟨q1,hW'.trans (q2.mono hW'.size)⟩)
 have cM:=fun (a b:Int)=>regrown_calls (W:=W) (fun W' hW'=>(mixA_any a b W').mono (R':=fun r w'=>r = .returned (.int .u64 (mixV a b))∧Below W.heap.size W w') fun _ _ ⟨q1,q2⟩=>⟨q1,q2▸hW'⟩)
 simp only [Jb.cells,Edg.cells] at cA cB cC ⊢
 have j0:W.cell? ⟨w.heap.size,0,none⟩=some (.int .u8 f):=hK.cell 0
 have j1:W.cell? ⟨w.heap.size,1,none⟩=some (.int .u8 op):=hK.cell 1
 have j2:W.cell? ⟨w.heap.size,2,none⟩=some (.int .u8 l):=hK.cell 2
 have k3:∀d os,(grow (redrawn W d) os).cell? ⟨w.heap.size,3,none⟩=some (.int .u8 at_):=fun d os=>cell_regrown (hK.cell 3) d os
 have k4:∀d os,(grow (redrawn W d) os).cell? ⟨w.heap.size,4,none⟩=some (.int .u32 ap):=fun d os=>cell_regrown (hK.cell 4) d os
 have k5:∀d os,(grow (redrawn W d) os).cell? ⟨w.heap.size,5,none⟩=some (.int .u8 bt):=fun d os=>cell_regrown (hK.cell 5) d os
 have k6:∀d os,(grow (redrawn W d) os).cell? ⟨w.heap.size,6,none⟩=some (.int .u32 bp):=fun d os=>cell_regrown (hK.cell 6) d os
 have k7:∀d os,(grow (redrawn W d) os).cell? ⟨w.heap.size,7,none⟩=some (.int .u8 ct):=fun d os=>cell_regrown (hK.cell 7) d os
 have k8:∀d os,(grow (redrawn W d) os).cell? ⟨w.heap.size,8,none⟩=some (.int .u32 cp):=fun d os=>cell_regrown (hK.cell 8) d os
 have HWW:=Lib.hid hW
 have HbW:=Lib.hid hbW
 clear ha hb hc hbW hK
 go_enter Tryz.func177,Tryz.ntmps177
 go_wp2_with fail
 rw [← HWW.out]
 clear hW
 refine (mixA_any _ _ _).mono ?_
 rintro e w1 ⟨rfl,rfl⟩
 obtain ⟨v1,hv1⟩:∃v1,v1=mixV (bits .or .u64 (bits .or .u64 (f*65536) (op*256)) l) 1:=⟨_,rfl⟩
 rw [← hv1]
 have HV1:=Lib.hid hv1
 clear hv1
 go_wp2_with fail
 refine wp_region_quiet_below (by kernel_rfl) (by kernel_rfl) ?_
 repeat (first|go_big_quiet_step (first|with_reducible exact cA _ _|with_reducible exact cB _ _|with_reducible exact cC _ _|with_reducible exact cM _ _ _ _|fail)|quiet_step (first|with_reducible exact cA _ _|with_reducible exact cB _ _|with_reducible exact cC _ _|with_reducible exact cM _ _ _ _|fail))
 refine wpQuiet_nil ?_
 intro w6 hw'
 have hbel6:Below W.heap.size W w6:=regrown_below hw'
 clear hw'
 go_wp2_with fail
 go_ret
 refine ⟨?_,HbW.out.trans (hbel6.mono HbW.out.size)⟩
 unfold hashAV
 rw [← HV1.out]
 rfl
structure EntA where
 k:Jb
 v:Edg
 ep:Int
def EntA.cells (e:EntA):List Value:=e.k.cells++e.v.cells++[.int .i64 e.ep]
theorem EntA.cells_len (e:EntA):e.cells.length=12:=rfl
theorem EntA.cells_one (e:EntA):∀u∈e.cells,u.oneCell'=true:=by simp [EntA.cells,Jb.cells,Edg.cells,Value.oneCell']
def CaA (w:World) (F:List Nat) (c:Nat) (es:List EntA) (ep:Int):Prop:=
 ∃(b n:Nat) (h1 h2:Int),Blk w c 135 #[.slice (some ⟨b,0,none⟩) n n,.int .i64 ep,.int .i64 h1,.int .i64 h2]∧OwnS 12 EntA.cells 189 w 0 (.slice (some ⟨b,0,none⟩) n n) es∧
  es.length=n∧(∃ q,q≤40∧n=2^q)∧F=[c,b]∧c≠b
section
variable {w w':World} {F G:List Nat} {c:Nat} {es:List EntA} {ep:Int}
theorem CaA.chg (h:CaA w F c es ep) (hb:Chg G w w') (hd:∀k∈F,¬k∈G):CaA w' F c es ep:=by
 obtain ⟨b,n,h1,h2,hB,hO,hl,hq,rfl,hne⟩:=h
 exact ⟨b,n,h1,h2,hB.chg hb (hd c (by simp)),hO.chg hb (fun k hk=>hd k (by simp [mem_blk,Value.ownBlock] at hk;simp [hk])),hl,hq,rfl,hne⟩
theorem CaA.lt (h:CaA w F c es ep):∀k∈F,k<w.heap.size:=by
 obtain ⟨b,n,h1,h2,hB,hO,hl,hq,rfl,hne⟩:=h
 intro k hk
 simp at hk
 rcases hk with rfl|rfl
 ·exact hB.lt
 ·exact OwnS.blk_lt hO _ (by simp [mem_blk,Value.ownBlock])
end
theorem two_le40 {n:Nat} (hn:∃q,q≤40∧n=2^q):1≤n∧n≤1099511627776:=by
 obtain ⟨q,hq,rfl⟩:=hn
 exact ⟨Nat.two_pow_pos q,Nat.le_trans (Nat.pow_le_pow_right (by omega) hq) (by decide)⟩
theorem mask_a {n:Nat} (h:1≤n∧n≤1099511627776):IntKind.i64.wrap ((n:Int)-1)=(n:Int)-1:=IntWalk.i64_in _ (by omega)
theorem mask_b {n:Nat} (h:1≤n∧n≤1099511627776):IntKind.u64.wrap ((n:Int)-1)=(n:Int)-1:=by rw [IntKind.wrap_u64];omega
theorem mask_c {n y:Nat} (hn:∃q,q≤40∧n=2^q) (hy:(y:Int)≤18446744073709551615):bits .and .u64 (y:Int) ((n:Int)-1)=((y%n:Nat):Int):=by
 have h:=two_le40 hn
 obtain ⟨q,hq,hn2⟩:=hn
 rw [show (n:Int)-1=((n-1:Nat):Int) by omega,u64_and_nat' y (n-1) (by omega) (by omega),hn2,Nat.and_two_pow_sub_one_eq_mod]
theorem mask3 {hv:Int} {n:Nat} (h0:0≤hv) (h1:hv≤18446744073709551615) (hn:∃q,q≤40∧n=2^q):IntKind.i64.wrap ((n:Int)-1)=(n:Int)-1∧IntKind.u64.wrap ((n:Int)-1)=(n:Int)-1∧bits .and .u64 hv ((n:Int)-1)=((hv.toNat%n:Nat):Int):=by
 refine ⟨mask_a (two_le40 hn),mask_b (two_le40 hn),?_⟩
 obtain ⟨y,rfl⟩:=Int.eq_ofNat_of_zero_le h0
 rw [Int.toNat_natCast]
 exact mask_c hn h1
theorem method_hashA (n:Nat) (cs:Array Value) (w:World):(method (n+1) 93 (.agg cs) "Hash").run Tryz.prog w = .ok (177,.agg cs) w:=by kernel_rfl
set_option maxRecDepth 100000 in
set_option maxHeartbeats 4000000 in
theorem caAt_any (c b n:Nat) (x1 x2 x3:Value) (j:Jb) (w:World) (hB:Blk w c 135 #[.slice (some ⟨b,0,none⟩) n n,x1,x2,x3]) (hn:∃q,q≤40∧n=2^q) (hj:j.Wf) :
  Calls Tryz.prog 101 #[.pointer (some ⟨c,0,none⟩),.agg j.cells.toArray] w fun e w'=>(∃ i,i<n∧e = .returned (.pointer (some ⟨b,i*12,none⟩)))∧Below w.heap.size w w':=by
 have hlt:=hB.lt
 have hc0:w.cell? ⟨c,0,none⟩=some (.slice (some ⟨b,0,none⟩) n n):=hB.cell 0
 have HB:=Lib.hid hB
 have HN:=Lib.hid hn
 have hh0:=hashAV_range j
 obtain ⟨W,hW⟩:∃W,W=w.alloc (.cells j.cells.toArray 93):=⟨_,rfl⟩
 have hbW:Below w.heap.size w W:=by rw [hW];exact (Below.refl _ _).alloc (Nat.le_refl _) _
 have hK:Blk W w.heap.size 93 j.cells.toArray:=by rw [hW];exact Blk.new w _ _
 have hcW:W.cell? ⟨c,0,none⟩=some (.slice (some ⟨b,0,none⟩) n n):=(hbW.cell (p:=⟨c,0,none⟩) hlt).trans hc0
 have HH:=Lib.hid (fun W' (hW':Below W.heap.size W W')=>(hashA_any j W' hj).mono (R':=fun r w'=>r = .returned (.int .u64 (hashAV j))∧Below W.heap.size W w') fun _ _ ⟨q1,q2⟩=>⟨q1,hW'.trans (q2.mono hW'.size)⟩)
 obtain ⟨f,op,l,⟨at_,ap⟩,⟨bt,bp⟩,⟨ct,cp⟩⟩:=j
 simp only [Jb.cells] at hK hW HH ⊢
 generalize hashAV _=hv at *
 have hi:hv.toNat%n<n:=Nat.mod_lt _ (by obtain ⟨q,_,rfl⟩:=hn;exact Nat.two_pow_pos q)
 obtain ⟨e6,e5,e7⟩:=mask3 hh0.1 hh0.2 hn
 have hi:hv.toNat%n<n:=Nat.mod_lt _ (by have:=two_le40 hn;omega)
 have hb1:0≤bits .and .u64 hv ((n:Int)-1):=by rw [e7];omega
 have hb2:bits .and .u64 hv ((n:Int)-1)<(n:Int):=by rw [e7];omega
 clear e7 hh0 hi
 have hcl:c<W.heap.size:=by have:=hbW.size;omega
 have FACTS:Hid (∀ W',Below W.heap.size W W'→W'.cell? ⟨c,0,none⟩=some (.slice (some ⟨b,0,none⟩) n n)∧W'.cell? ⟨w.heap.size,0,none⟩=some (.int .u8 f)∧W'.cell? ⟨w.heap.size,1,none⟩=some (.int .u8 op)∧W'.cell? ⟨w.heap.size,2,none⟩=some (.int .u8 l)∧W'.cell? ⟨w.heap.size,3,none⟩=some (.int .u8 at_)∧W'.cell? ⟨w.heap.size,4,none⟩=some (.int .u32 ap)∧W'.cell? ⟨w.heap.size,5,none⟩=some (.int .u8 bt)∧W'.cell? ⟨w.heap.size,6,none⟩=some (.int .u32 bp)∧W'.cell? ⟨w.heap.size,7,none⟩=some (.int .u8 ct)∧W'.cell? ⟨w.heap.size,8,none⟩=some (.int .u32 cp)):=Lib.hid fun W' hW'=>⟨(hW'.cell (p:=⟨c,0,none⟩) hcl).trans hcW,(hW'.cell (p:=⟨w.heap.size,0,none⟩) hK.lt).trans (hK.cell 0),(hW'.cell (p:=⟨w.heap.size,1,none⟩) hK.lt).trans (hK.cell 1),(hW'.cell (p:=⟨w.heap.size,2,none⟩) hK.lt).trans (hK.cell 2),(hW'.cell (p:=⟨w.heap.size,3,none⟩) hK.lt).trans (hK.cell 3),(hW'.cell (p:=⟨w.heap.size,4,none⟩) hK.lt).trans (hK.cell 4),(hW'.cell (p:=⟨w.heap.size,5,none⟩) hK.lt).trans (hK.cell 5),(hW'.cell (p:=⟨w.heap.size,6,none⟩) hK.lt).trans (hK.cell 6),(hW'.cell (p:=⟨w.heap.size,7,none⟩) hK.lt).trans (hK.cell 7),(hW'.cell (p:=⟨w.heap.size,8,none⟩) hK.lt).trans (hK.cell 8)⟩
 have HWW:=Lib.hid hW
 have HbW:=Lib.hid hbW
 have HI:=Lib.hid (And.intro hb1 hb2)
 clear hB hn hj hbW hK
 have hm:=method_hashA
 go_enter Tryz.func101,Tryz.ntmps101
 go_wp2_with fail
 rw [← HWW.out]
 clear hW
 obtain ⟨k0,k1,k2,k3,k4,k5,k6,k7,k8,k9⟩:=FACTS.out W (Below.refl _ _)
 have b0:=Below.refl W.heap.size W
 go_region_held3 (fun w'=>w'.cell? ⟨c,0,none⟩=some (.slice (some ⟨b,0,none⟩) n n)∧w'.cell? ⟨w.heap.size,0,none⟩=some (.int .u8 f)∧w'.cell? ⟨w.heap.size,1,none⟩=some (.int .u8 op)∧w'.cell? ⟨w.heap.size,2,none⟩=some (.int .u8 l)∧w'.cell? ⟨w.heap.size,3,none⟩=some (.int .u8 at_)∧w'.cell? ⟨w.heap.size,4,none⟩=some (.int .u32 ap)∧w'.cell? ⟨w.heap.size,5,none⟩=some (.int .u8 bt)∧w'.cell? ⟨w.heap.size,6,none⟩=some (.int .u32 bp)∧w'.cell? ⟨w.heap.size,7,none⟩=some (.int .u8 ct)∧w'.cell? ⟨w.heap.size,8,none⟩=some (.int .u32 cp)) ((refine FACTS.out _ ?_;with_reducible (first|exact b0|exact b0.drew|exact b1|exact b1.drew|fail))) (first|((with_reducible show Calls _ 177 _ _ _);refine (HH.out _ (by with_reducible (first|exact b0|exact b0.drew))).mono ?_;rintro x w4 ⟨rfl,b1⟩)|fail)
 go_wp2_with fail
 go_ret
 exact ⟨⟨(bits .and .u64 hv ((n:Int)-1)).toNat,by have:=HI.out;omega,rfl⟩,HbW.out.trans (Below.mono (B':=w.heap.size) (by first |exact b1|exact b1.drew) HbW.out.size)⟩
end
end Go.Proofs.YtnlmlehcpngcgaaGreat
