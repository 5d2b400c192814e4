/- What the contracts of Make and View have in common. -/
import Derived.Test.YtnlmlehcpngcgaaGreatQak
import Derived.Test.YtnlmlehcpngcgaaGreatQam
namespace Go.Proofs.YtnlmlehcpngcgaaGreat
set_option linter.unusedSimpArgs false
set_option linter.unusedVariables false
section
open Go.RowKit Go.Sort
def EdgeOut (k:Nat) (w:World) (F:List Nat) (g n room:Nat) (cs:List (Option Rec)) (P:List (Option Rec)→Edg→Prop) (e:Ending) (w':World):Prop:=
 (∃ (ed:Edg) (cs':List (Option Rec)) (free':List Int),e = .returned (.tuple #[.agg ed.cells.toArray,.int .u8 0])∧P cs' ed∧Grow k cs cs' free'∧Turns (fun W X=>StoreAt W X g n room cs' free') F w w')∨
 (∃ (cs':List (Option Rec)) (free':List Int),e = .returned (.tuple #[.agg Edg.nil.cells.toArray,.int .u8 6])∧room≤cntC cs'∧Grow k cs cs' free'∧Turns (fun W X=>StoreAt W X g n room cs' free') F w w')
theorem StoreAt.uniq {w:World} {F:List Nat} {g n room:Nat} {cs:List (Option Rec)} {free:List Int} (h:StoreAt w F g n room cs free):Uniq cs:=by
 obtain ⟨ga,gi,Fa,Fi,m,h1,h2,h3,h4,h5,h6,h7⟩:=h
 exact uniq_of h4
theorem recAt_big {n room:Nat} {cs:List (Option Rec)} {free:List Int} (h:StOk n room cs free):∀id r,recAt cs id=some r→id≤4294967295:=fun id r hr=>by
 have h1:=(recAt_some hr).2.1
 have h2:=(recAt_some hr).1
 have h3:=h.len
 have h4:=h.room20
 omega
theorem turns_down {A:World→List Nat→Prop} (hA:∀{W W':World} {F G:List Nat},A W F→Chg G W W'→(∀ k∈F,¬k∈G)→A W' F) {w W0 w1 w2:World} {F G:List Nat} (hb:Below w.heap.size w W0) (hF:∀k∈F,k<w.heap.size) (h:Turns A F W0 w1) (hc:Chg G w1 w2)
  (hG:∀k∈G,w.heap.size≤k∧k<W0.heap.size):Turns A F w w2:=by
 obtain ⟨⟨F',h1,h2⟩,h3⟩:=h
 have hs:=hb.size
 refine ⟨⟨F',hA h1 hc (fun k hk hm=>?_),fun k hk=>?_⟩,((chg_of_below hb).trans h3 (fun x hx=> .inl hx)).trans hc (fun x hx=> .inr (hG x hx).1)⟩
 ·have:=hG k hm
  rcases h2 k hk with h4|h4
  ·have:=hF k h4;omega
  ·omega
 ·rcases h2 k hk with h4|h4
  ·exact .inl h4
  ·right;omega
theorem sto_down {w W0 w1 w2:World} {F G:List Nat} {g n room:Nat} {cs:List (Option Rec)} {free:List Int} (hb:Below w.heap.size w W0) (hF:∀k∈F,k<w.heap.size) (h:Turns (fun W X=>StoreAt W X g n room cs free) F W0 w1) (hc:Chg G w1 w2)
  (hG:∀k∈G,w.heap.size≤k∧k<W0.heap.size):Turns (fun W X=>StoreAt W X g n room cs free) F w w2:=
 turns_down (A:=fun W X=>StoreAt W X g n room cs free) (fun h1 h2 h3=>StoreAt.chg h1 h2 h3) hb hF h hc hG
theorem sto_below {w w':World} {F:List Nat} {g n room:Nat} {cs:List (Option Rec)} {free:List Int} (h:StoreAt w F g n room cs free) (hb:Below w.heap.size w w'):Turns (fun W X=>StoreAt W X g n room cs free) F w w':=turns_of_below (h.on hb) hb
structure Two (cs:List (Option Rec)) (f n l:Int) (lo hi:Edg) (a b:Dg):Prop where
 f15:1≤f∧f≤5
 n16:0≤n∧n≤16
 l0:0≤l∧l<n
 lo:Unf cs f lo a
 hi:Unf cs f hi b
 a:Ft f (l+1) a∧Gd f n a
 b:Ft f (l+1) b∧Gd f n b
theorem Two.leads {cs:List (Option Rec)} {f n l:Int} {lo hi:Edg} {a b:Dg} (h:Two cs f n l lo hi a b):leads cs n f lo (l+1)=true∧leads cs n f hi (l+1)=true:=
 ⟨leads_of h.n16 h.f15 ⟨by have:=h.l0;omega,by have:=h.l0;omega⟩ h.lo h.a.1 h.a.2,leads_of h.n16 h.f15 ⟨by have:=h.l0;omega,by have:=h.l0;omega⟩ h.hi h.b.1 h.b.2⟩
theorem Two.right_ {cs:List (Option Rec)} {f n l:Int} {lo hi:Edg} {a b:Dg} (h:Two cs f n l lo hi a b) (hc:if f=2∨f=4 then b≠ .nil else a≠b):right ⟨f,l,l,lo,hi⟩ n=true:=
 right_of h.n16 h.f15 ⟨h.l0.1,Int.le_refl _,h.l0.2,.inl rfl⟩ h.lo h.hi h.a h.b hc
theorem Two.eq_iff {cs:List (Option Rec)} {f n l:Int} {lo hi:Edg} {a b:Dg} (h:Two cs f n l lo hi a b) (hu:Uniq cs):lo=hi↔a=b:=⟨fun e=>unf_fun h.lo (e▸h.hi),fun e=>unf_inj hu h.lo (e▸h.hi)⟩
set_option maxRecDepth 100000 in
set_option maxHeartbeats 4000000 in
theorem found_bdd (F:List Nat) (g n room:Nat) (cs:List (Option Rec)) (free:List Int) (r:Rec) (w:World) (h:StoreAt w F g n room cs free) (hfr:FreeOk cs free) (hr:r.Wf) (hri:right r n=true) (hlo:leads cs n r.form r.lo (r.bot+1)=true) (hhi:leads cs n r.form r.hi (r.bot+1)=true) :
  Calls Tryz.prog 88 #[.pointer (some ⟨g,0,none⟩),.agg r.cells.toArray] w (EdgeOut 1 w F g n room cs (fun cs' ed=>ed.tag=0∧recAt cs' ed.pos=some r)):=by
 have HR:=Lib.hid hr
 have hF:=Lib.hid h.lt
 have HFR:=Lib.hid hfr
 have H2:Hid (Below w.heap.size w ((w.alloc (.cells r.cells.toArray 78)).alloc (.cells #[.int .u8 0,.int .u32 0] 48))):=Lib.hid (((Below.refl _ _).alloc (Nat.le_refl _) _).alloc (by simp) _)
 have HFN:=Lib.hid (findF_any F g n room cs free r _ (h.on H2.out) hr hfr hri hlo hhi)
 obtain ⟨f,t,b,⟨lt,lp⟩,⟨ht,hp⟩⟩:=r
 simp only [Rec.cells] at HFN H2 ⊢
 obtain ⟨W,hW⟩:∃W,W=((w.alloc (.cells #[.int .u8 f,.int .u8 t,.int .u8 b,.int .u8 lt,.int .u32 lp,.int .u8 ht,.int .u32 hp] 78)).alloc (.cells #[.int .u8 0,.int .u32 0] 48)):=⟨_,rfl⟩
 have hK:Blk W w.heap.size 78 #[.int .u8 f,.int .u8 t,.int .u8 b,.int .u8 lt,.int .u32 lp,.int .u8 ht,.int .u32 hp]:=by rw [hW];exact (Blk.new _ _ _).alloc _
 have hZ:Blk W (w.heap.size+1) 48 #[.int .u8 0,.int .u32 0]:=by rw [hW];exact Blk.new_at (by simp) _ _
 have HWS:Hid (W.heap.size=w.heap.size+2):=Lib.hid (by rw [hW];simp)
 rw [← hW] at HFN H2
 have HWW:=Lib.hid hW
 have k0:W.cell? ⟨w.heap.size,0,none⟩=some (.int .u8 f):=hK.cell 0
 have k1:W.cell? ⟨w.heap.size,1,none⟩=some (.int .u8 t):=hK.cell 1
 have k2:W.cell? ⟨w.heap.size,2,none⟩=some (.int .u8 b):=hK.cell 2
 have k3:W.cell? ⟨w.heap.size,3,none⟩=some (.int .u8 lt):=hK.cell 3
 have k4:W.cell? ⟨w.heap.size,4,none⟩=some (.int .u32 lp):=hK.cell 4
 have k5:W.cell? ⟨w.heap.size,5,none⟩=some (.int .u8 ht):=hK.cell 5
 have k6:W.cell? ⟨w.heap.size,6,none⟩=some (.int .u32 hp):=hK.cell 6
 have HZ:=Lib.hid hZ
 have HK:=Lib.hid hK
 clear h hr hfr hri hlo hhi hK hZ
 go_enter Tryz.func88,Tryz.ntmps88
 go_wp2_with fail
 rw [← HWW.out]
 clear hW
 refine HFN.out.mono ?_
 clear k0 k1 k2 k3 k4 k5 k6
 rintro e w1 (⟨id,cs2,free2,rfl,hid,hrec,hgr,hT⟩|⟨rfl,hfull,hT⟩)
 ·have HT:=Lib.hid hT
  have hB:=HZ.out.chg hT.2 (fun hm=>by have:=hF.out _ hm;omega)
  have hB2:=HK.out.chg hT.2 (fun hm=>by have:=hF.out _ hm;omega)
  have n0:w1.cell? ⟨w.heap.size+1,0,none⟩=some (.int .u8 0):=hB.cell 0
  have n1:w1.cell? ⟨w.heap.size+1,1,none⟩=some (.int .u32 0):=hB.cell 1
  have z0:=hB.frozen 0
  have z1:=hB.frozen 1
  have k1:w1.cell? ⟨w.heap.size,1,none⟩=some (.int .u8 t):=hB2.cell 1
  have HG:=Lib.hid (And.intro hrec hgr)
  clear hT hB hB2 hrec hgr
  go_wp2_with fail
  refine bodyPost_ret (v:= .tuple #[.agg (⟨0,(id:Int)⟩:Edg).cells.toArray,.int .u8 0]) ?_ rfl (.inl ⟨⟨0,(id:Int)⟩,cs2,free2,rfl,⟨rfl,HG.out.1⟩,HG.out.2,?_⟩)
  ·simp [results,Tryz.results88,go_sem,Edg.cells, *]
  ·exact sto_down H2.out hF.out HT.out (((Chg.refl [w.heap.size+1] w1).setCell (.inl (by simp)) _).setCell (.inl (by simp)) _) (fun k hk=>by have:=HWS.out;simp at hk;omega)
 ·have HT:=Lib.hid hT
  have hB:=HZ.out.chg hT.2 (fun hm=>by have:=hF.out _ hm;omega)
  have n0:w1.cell? ⟨w.heap.size+1,0,none⟩=some (.int .u8 0):=hB.cell 0
  have n1:w1.cell? ⟨w.heap.size+1,1,none⟩=some (.int .u32 0):=hB.cell 1
  have z0:=hB.frozen 0
  have z1:=hB.frozen 1
  have HG:=Lib.hid hfull
  clear hT hB hfull
  go_wp2_with fail
  refine bodyPost_ret (v:= .tuple #[.agg Edg.nil.cells.toArray,.int .u8 6]) ?_ rfl (.inr ⟨cs,free,rfl,HG.out,Grow.refl HFR.out 1,?_⟩)
  ·simp [results,Tryz.results88,go_sem,Edg.cells,Edg.nil, *]
  ·exact sto_down H2.out hF.out HT.out (((Chg.refl [w.heap.size+1] w1).setCell (.inl (by simp)) _).setCell (.inl (by simp)) _) (fun k hk=>by have:=HWS.out;simp at hk;omega)
set_option maxRecDepth 100000 in
set_option maxHeartbeats 4000000 in
theorem found_zdd (F:List Nat) (g n room:Nat) (cs:List (Option Rec)) (free:List Int) (r:Rec) (w:World) (h:StoreAt w F g n room cs free) (hfr:FreeOk cs free) (hr:r.Wf) (hri:right r n=true) (hlo:leads cs n r.form r.lo (r.bot+1)=true) (hhi:leads cs n r.form r.hi (r.bot+1)=true) :
  Calls Tryz.prog 89 #[.pointer (some ⟨g,0,none⟩),.agg r.cells.toArray] w (EdgeOut 1 w F g n room cs (fun cs' ed=>ed.tag=0∧recAt cs' ed.pos=some r)):=by
 have HR:=Lib.hid hr
 have hF:=Lib.hid h.lt
 have HFR:=Lib.hid hfr
 have H2:Hid (Below w.heap.size w ((w.alloc (.cells r.cells.toArray 78)).alloc (.cells #[.int .u8 0,.int .u32 0] 48))):=Lib.hid (((Below.refl _ _).alloc (Nat.le_refl _) _).alloc (by simp) _)
 have HFN:=Lib.hid (findF_any F g n room cs free r _ (h.on H2.out) hr hfr hri hlo hhi)
 obtain ⟨f,t,b,⟨lt,lp⟩,⟨ht,hp⟩⟩:=r
 simp only [Rec.cells] at HFN H2 ⊢
 obtain ⟨W,hW⟩:∃W,W=((w.alloc (.cells #[.int .u8 f,.int .u8 t,.int .u8 b,.int .u8 lt,.int .u32 lp,.int .u8 ht,.int .u32 hp] 78)).alloc (.cells #[.int .u8 0,.int .u32 0] 48)):=⟨_,rfl⟩
 have hK:Blk W w.heap.size 78 #[.int .u8 f,.int .u8 t,.int .u8 b,.int .u8 lt,.int .u32 lp,.int .u8 ht,.int .u32 hp]:=by rw [hW];exact (Blk.new _ _ _).alloc _
 have hZ:Blk W (w.heap.size+1) 48 #[.int .u8 0,.int .u32 0]:=by rw [hW];exact Blk.new_at (by simp) _ _
 have HWS:Hid (W.heap.size=w.heap.size+2):=Lib.hid (by rw [hW];simp)
 rw [← hW] at HFN H2
 have HWW:=Lib.hid hW
 have k0:W.cell? ⟨w.heap.size,0,none⟩=some (.int .u8 f):=hK.cell 0
 have k1:W.cell? ⟨w.heap.size,1,none⟩=some (.int .u8 t):=hK.cell 1
 have k2:W.cell? ⟨w.heap.size,2,none⟩=some (.int .u8 b):=hK.cell 2
 have k3:W.cell? ⟨w.heap.size,3,none⟩=some (.int .u8 lt):=hK.cell 3
 have k4:W.cell? ⟨w.heap.size,4,none⟩=some (.int .u32 lp):=hK.cell 4
 have k5:W.cell? ⟨w.heap.size,5,none⟩=some (.int .u8 ht):=hK.cell 5
 have k6:W.cell? ⟨w.heap.size,6,none⟩=some (.int .u32 hp):=hK.cell 6
 have HZ:=Lib.hid hZ
 have HK:=Lib.hid hK
 clear h hr hfr hri hlo hhi hK hZ
 go_enter Tryz.func89,Tryz.ntmps89
 go_wp2_with fail
 rw [← HWW.out]
 clear hW
 refine HFN.out.mono ?_
 clear k0 k1 k2 k3 k4 k5 k6
 rintro e w1 (⟨id,cs2,free2,rfl,hid,hrec,hgr,hT⟩|⟨rfl,hfull,hT⟩)
 ·have HT:=Lib.hid hT
  have hB:=HZ.out.chg hT.2 (fun hm=>by have:=hF.out _ hm;omega)
  have hB2:=HK.out.chg hT.2 (fun hm=>by have:=hF.out _ hm;omega)
  have n0:w1.cell? ⟨w.heap.size+1,0,none⟩=some (.int .u8 0):=hB.cell 0
  have n1:w1.cell? ⟨w.heap.size+1,1,none⟩=some (.int .u32 0):=hB.cell 1
  have z0:=hB.frozen 0
  have z1:=hB.frozen 1
  have k1:w1.cell? ⟨w.heap.size,1,none⟩=some (.int .u8 t):=hB2.cell 1
  have HG:=Lib.hid (And.intro hrec hgr)
  clear hT hB hB2 hrec hgr
  go_wp2_with fail
  refine bodyPost_ret (v:= .tuple #[.agg (⟨0,(id:Int)⟩:Edg).cells.toArray,.int .u8 0]) ?_ rfl (.inl ⟨⟨0,(id:Int)⟩,cs2,free2,rfl,⟨rfl,HG.out.1⟩,HG.out.2,?_⟩)
  ·simp [results,Tryz.results89,go_sem,Edg.cells, *]
  ·exact sto_down H2.out hF.out HT.out (((Chg.refl [w.heap.size+1] w1).setCell (.inl (by simp)) _).setCell (.inl (by simp)) _) (fun k hk=>by have:=HWS.out;simp at hk;omega)
 ·have HT:=Lib.hid hT
  have hB:=HZ.out.chg hT.2 (fun hm=>by have:=hF.out _ hm;omega)
  have n0:w1.cell? ⟨w.heap.size+1,0,none⟩=some (.int .u8 0):=hB.cell 0
  have n1:w1.cell? ⟨w.heap.size+1,1,none⟩=some (.int .u32 0):=hB.cell 1
  have z0:=hB.frozen 0
  have z1:=hB.frozen 1
  have HG:=Lib.hid hfull
  clear hT hB hfull
  go_wp2_with fail
  refine bodyPost_ret (v:= .tuple #[.agg Edg.nil.cells.toArray,.int .u8 6]) ?_ rfl (.inr ⟨cs,free,rfl,HG.out,Grow.refl HFR.out 1,?_⟩)
  ·simp [results,Tryz.results89,go_sem,Edg.cells,Edg.nil, *]
  ·exact sto_down H2.out hF.out HT.out (((Chg.refl [w.heap.size+1] w1).setCell (.inl (by simp)) _).setCell (.inl (by simp)) _) (fun k hk=>by have:=HWS.out;simp at hk;omega)
set_option maxRecDepth 100000 in
set_option maxHeartbeats 4000000 in
theorem found_cbdd (F:List Nat) (g n room:Nat) (cs:List (Option Rec)) (free:List Int) (r:Rec) (w:World) (h:StoreAt w F g n room cs free) (hfr:FreeOk cs free) (hr:r.Wf) (hri:right r n=true) (hlo:leads cs n r.form r.lo (r.bot+1)=true) (hhi:leads cs n r.form r.hi (r.bot+1)=true) :
  Calls Tryz.prog 90 #[.pointer (some ⟨g,0,none⟩),.agg r.cells.toArray] w (EdgeOut 1 w F g n room cs (fun cs' ed=>ed.tag=0∧recAt cs' ed.pos=some r)):=by
 have HR:=Lib.hid hr
 have hF:=Lib.hid h.lt
 have HFR:=Lib.hid hfr
 have H2:Hid (Below w.heap.size w ((w.alloc (.cells r.cells.toArray 78)).alloc (.cells #[.int .u8 0,.int .u32 0] 48))):=Lib.hid (((Below.refl _ _).alloc (Nat.le_refl _) _).alloc (by simp) _)
 have HFN:=Lib.hid (findF_any F g n room cs free r _ (h.on H2.out) hr hfr hri hlo hhi)
 obtain ⟨f,t,b,⟨lt,lp⟩,⟨ht,hp⟩⟩:=r
 simp only [Rec.cells] at HFN H2 ⊢
 obtain ⟨W,hW⟩:∃W,W=((w.alloc (.cells #[.int .u8 f,.int .u8 t,.int .u8 b,.int .u8 lt,.int .u32 lp,.int .u8 ht,.int .u32 hp] 78)).alloc (.cells #[.int .u8 0,.int .u32 0] 48)):=⟨_,rfl⟩
 have hK:Blk W w.heap.size 78 #[.int .u8 f,.int .u8 t,.int .u8 b,.int .u8 lt,.int .u32 lp,.int .u8 ht,.int .u32 hp]:=by rw [hW];exact (Blk.new _ _ _).alloc _
 have hZ:Blk W (w.heap.size+1) 48 #[.int .u8 0,.int .u32 0]:=by rw [hW];exact Blk.new_at (by simp) _ _
 have HWS:Hid (W.heap.size=w.heap.size+2):=Lib.hid (by rw [hW];simp)
 rw [← hW] at HFN H2
 have HWW:=Lib.hid hW
 have k0:W.cell? ⟨w.heap.size,0,none⟩=some (.int .u8 f):=hK.cell 0
 have k1:W.cell? ⟨w.heap.size,1,none⟩=some (.int .u8 t):=hK.cell 1
 have k2:W.cell? ⟨w.heap.size,2,none⟩=some (.int .u8 b):=hK.cell 2
 have k3:W.cell? ⟨w.heap.size,3,none⟩=some (.int .u8 lt):=hK.cell 3
 have k4:W.cell? ⟨w.heap.size,4,none⟩=some (.int .u32 lp):=hK.cell 4
 have k5:W.cell? ⟨w.heap.size,5,none⟩=some (.int .u8 ht):=hK.cell 5
 have k6:W.cell? ⟨w.heap.size,6,none⟩=some (.int .u32 hp):=hK.cell 6
 have HZ:=Lib.hid hZ
 have HK:=Lib.hid hK
 clear h hr hfr hri hlo hhi hK hZ
 go_enter Tryz.func90,Tryz.ntmps90
 go_wp2_with fail
 rw [← HWW.out]
 clear hW
 refine HFN.out.mono ?_
 clear k0 k1 k2 k3 k4 k5 k6
 rintro e w1 (⟨id,cs2,free2,rfl,hid,hrec,hgr,hT⟩|⟨rfl,hfull,hT⟩)
 ·have HT:=Lib.hid hT
  have hB:=HZ.out.chg hT.2 (fun hm=>by have:=hF.out _ hm;omega)
  have hB2:=HK.out.chg hT.2 (fun hm=>by have:=hF.out _ hm;omega)
  have n0:w1.cell? ⟨w.heap.size+1,0,none⟩=some (.int .u8 0):=hB.cell 0
  have n1:w1.cell? ⟨w.heap.size+1,1,none⟩=some (.int .u32 0):=hB.cell 1
  have z0:=hB.frozen 0
  have z1:=hB.frozen 1
  have k1:w1.cell? ⟨w.heap.size,1,none⟩=some (.int .u8 t):=hB2.cell 1
  have HG:=Lib.hid (And.intro hrec hgr)
  clear hT hB hB2 hrec hgr
  go_wp2_with fail
  refine bodyPost_ret (v:= .tuple #[.agg (⟨0,(id:Int)⟩:Edg).cells.toArray,.int .u8 0]) ?_ rfl (.inl ⟨⟨0,(id:Int)⟩,cs2,free2,rfl,⟨rfl,HG.out.1⟩,HG.out.2,?_⟩)
  ·simp [results,Tryz.results90,go_sem,Edg.cells, *]
  ·exact sto_down H2.out hF.out HT.out (((Chg.refl [w.heap.size+1] w1).setCell (.inl (by simp)) _).setCell (.inl (by simp)) _) (fun k hk=>by have:=HWS.out;simp at hk;omega)
 ·have HT:=Lib.hid hT
  have hB:=HZ.out.chg hT.2 (fun hm=>by have:=hF.out _ hm;omega)
  have n0:w1.cell? ⟨w.heap.size+1,0,none⟩=some (.int .u8 0):=hB.cell 0
  have n1:w1.cell? ⟨w.heap.size+1,1,none⟩=some (.int .u32 0):=hB.cell 1
  have z0:=hB.frozen 0
  have z1:=hB.frozen 1
  have HG:=Lib.hid hfull
  clear hT hB hfull
  go_wp2_with fail
  refine bodyPost_ret (v:= .tuple #[.agg Edg.nil.cells.toArray,.int .u8 6]) ?_ rfl (.inr ⟨cs,free,rfl,HG.out,Grow.refl HFR.out 1,?_⟩)
  ·simp [results,Tryz.results90,go_sem,Edg.cells,Edg.nil, *]
  ·exact sto_down H2.out hF.out HT.out (((Chg.refl [w.heap.size+1] w1).setCell (.inl (by simp)) _).setCell (.inl (by simp)) _) (fun k hk=>by have:=HWS.out;simp at hk;omega)
set_option maxRecDepth 100000 in
set_option maxHeartbeats 4000000 in
theorem found_czdd (F:List Nat) (g n room:Nat) (cs:List (Option Rec)) (free:List Int) (r:Rec) (w:World) (h:StoreAt w F g n room cs free) (hfr:FreeOk cs free) (hr:r.Wf) (hri:right r n=true) (hlo:leads cs n r.form r.lo (r.bot+1)=true) (hhi:leads cs n r.form r.hi (r.bot+1)=true) :
  Calls Tryz.prog 91 #[.pointer (some ⟨g,0,none⟩),.agg r.cells.toArray] w (EdgeOut 1 w F g n room cs (fun cs' ed=>ed.tag=0∧recAt cs' ed.pos=some r)):=by
 have HR:=Lib.hid hr
 have hF:=Lib.hid h.lt
 have HFR:=Lib.hid hfr
 have H2:Hid (Below w.heap.size w ((w.alloc (.cells r.cells.toArray 78)).alloc (.cells #[.int .u8 0,.int .u32 0] 48))):=Lib.hid (((Below.refl _ _).alloc (Nat.le_refl _) _).alloc (by simp) _)
 have HFN:=Lib.hid (findF_any F g n room cs free r _ (h.on H2.out) hr hfr hri hlo hhi)
 obtain ⟨f,t,b,⟨lt,lp⟩,⟨ht,hp⟩⟩:=r
 simp only [Rec.cells] at HFN H2 ⊢
 obtain ⟨W,hW⟩:∃W,W=((w.alloc (.cells #[.int .u8 f,.int .u8 t,.int .u8 b,.int .u8 lt,.int .u32 lp,.int .u8 ht,.int .u32 hp] 78)).alloc (.cells #[.int .u8 0,.int .u32 0] 48)):=⟨_,rfl⟩
 have hK:Blk W w.heap.size 78 #[.int .u8 f,.int .u8 t,.int .u8 b,.int .u8 lt,.int .u32 lp,.int .u8 ht,.int .u32 hp]:=by rw [hW];exact (Blk.new _ _ _).alloc _
 have hZ:Blk W (w.heap.size+1) 48 #[.int .u8 0,.int .u32 0]:=by rw [hW];exact Blk.new_at (by simp) _ _
 have HWS:Hid (W.heap.size=w.heap.size+2):=Lib.hid (by rw [hW];simp)
 rw [← hW] at HFN H2
 have HWW:=Lib.hid hW
 have k0:W.cell? ⟨w.heap.size,0,none⟩=some (.int .u8 f):=hK.cell 0
 have k1:W.cell? ⟨w.heap.size,1,none⟩=some (.int .u8 t):=hK.cell 1
 have k2:W.cell? ⟨w.heap.size,2,none⟩=some (.int .u8 b):=hK.cell 2
 have k3:W.cell? ⟨w.heap.size,3,none⟩=some (.int .u8 lt):=hK.cell 3
 have k4:W.cell? ⟨w.heap.size,4,none⟩=some (.int .u32 lp):=hK.cell 4
 have k5:W.cell? ⟨w.heap.size,5,none⟩=some (.int .u8 ht):=hK.cell 5
 have k6:W.cell? ⟨w.heap.size,6,none⟩=some (.int .u32 hp):=hK.cell 6
 have HZ:=Lib.hid hZ
 have HK:=Lib.hid hK
 clear h hr hfr hri hlo hhi hK hZ
 go_enter Tryz.func91,Tryz.ntmps91
 go_wp2_with fail
 rw [← HWW.out]
 clear hW
 refine HFN.out.mono ?_
 clear k0 k1 k2 k3 k4 k5 k6
 rintro e w1 (⟨id,cs2,free2,rfl,hid,hrec,hgr,hT⟩|⟨rfl,hfull,hT⟩)
 ·have HT:=Lib.hid hT
  have hB:=HZ.out.chg hT.2 (fun hm=>by have:=hF.out _ hm;omega)
  have hB2:=HK.out.chg hT.2 (fun hm=>by have:=hF.out _ hm;omega)
  have n0:w1.cell? ⟨w.heap.size+1,0,none⟩=some (.int .u8 0):=hB.cell 0
  have n1:w1.cell? ⟨w.heap.size+1,1,none⟩=some (.int .u32 0):=hB.cell 1
  have z0:=hB.frozen 0
  have z1:=hB.frozen 1
  have k1:w1.cell? ⟨w.heap.size,1,none⟩=some (.int .u8 t):=hB2.cell 1
  have HG:=Lib.hid (And.intro hrec hgr)
  clear hT hB hB2 hrec hgr
  go_wp2_with fail
  refine bodyPost_ret (v:= .tuple #[.agg (⟨0,(id:Int)⟩:Edg).cells.toArray,.int .u8 0]) ?_ rfl (.inl ⟨⟨0,(id:Int)⟩,cs2,free2,rfl,⟨rfl,HG.out.1⟩,HG.out.2,?_⟩)
  ·simp [results,Tryz.results91,go_sem,Edg.cells, *]
  ·exact sto_down H2.out hF.out HT.out (((Chg.refl [w.heap.size+1] w1).setCell (.inl (by simp)) _).setCell (.inl (by simp)) _) (fun k hk=>by have:=HWS.out;simp at hk;omega)
 ·have HT:=Lib.hid hT
  have hB:=HZ.out.chg hT.2 (fun hm=>by have:=hF.out _ hm;omega)
  have n0:w1.cell? ⟨w.heap.size+1,0,none⟩=some (.int .u8 0):=hB.cell 0
  have n1:w1.cell? ⟨w.heap.size+1,1,none⟩=some (.int .u32 0):=hB.cell 1
  have z0:=hB.frozen 0
  have z1:=hB.frozen 1
  have HG:=Lib.hid hfull
  clear hT hB hfull
  go_wp2_with fail
  refine bodyPost_ret (v:= .tuple #[.agg Edg.nil.cells.toArray,.int .u8 6]) ?_ rfl (.inr ⟨cs,free,rfl,HG.out,Grow.refl HFR.out 1,?_⟩)
  ·simp [results,Tryz.results91,go_sem,Edg.cells,Edg.nil, *]
  ·exact sto_down H2.out hF.out HT.out (((Chg.refl [w.heap.size+1] w1).setCell (.inl (by simp)) _).setCell (.inl (by simp)) _) (fun k hk=>by have:=HWS.out;simp at hk;omega)
set_option maxRecDepth 100000 in
set_option maxHeartbeats 4000000 in
theorem found_tbdd (F:List Nat) (g n room:Nat) (cs:List (Option Rec)) (free:List Int) (r:Rec) (w:World) (h:StoreAt w F g n room cs free) (hfr:FreeOk cs free) (hr:r.Wf) (hri:right r n=true) (hlo:leads cs n r.form r.lo (r.bot+1)=true) (hhi:leads cs n r.form r.hi (r.bot+1)=true) :
  Calls Tryz.prog 92 #[.pointer (some ⟨g,0,none⟩),.agg r.cells.toArray] w (EdgeOut 1 w F g n room cs (fun cs' ed=>ed.tag=r.top∧recAt cs' ed.pos=some r)):=by
 have HR:=Lib.hid hr
 have hF:=Lib.hid h.lt
 have HFR:=Lib.hid hfr
 have H2:Hid (Below w.heap.size w ((w.alloc (.cells r.cells.toArray 78)).alloc (.cells #[.int .u8 0,.int .u32 0] 48))):=Lib.hid (((Below.refl _ _).alloc (Nat.le_refl _) _).alloc (by simp) _)
 have HFN:=Lib.hid (findF_any F g n room cs free r _ (h.on H2.out) hr hfr hri hlo hhi)
 obtain ⟨f,t,b,⟨lt,lp⟩,⟨ht,hp⟩⟩:=r
 simp only [Rec.cells] at HFN H2 ⊢
 obtain ⟨W,hW⟩:∃W,W=((w.alloc (.cells #[.int .u8 f,.int .u8 t,.int .u8 b,.int .u8 lt,.int .u32 lp,.int .u8 ht,.int .u32 hp] 78)).alloc (.cells #[.int .u8 0,.int .u32 0] 48)):=⟨_,rfl⟩
 have hK:Blk W w.heap.size 78 #[.int .u8 f,.int .u8 t,.int .u8 b,.int .u8 lt,.int .u32 lp,.int .u8 ht,.int .u32 hp]:=by rw [hW];exact (Blk.new _ _ _).alloc _
 have hZ:Blk W (w.heap.size+1) 48 #[.int .u8 0,.int .u32 0]:=by rw [hW];exact Blk.new_at (by simp) _ _
 have HWS:Hid (W.heap.size=w.heap.size+2):=Lib.hid (by rw [hW];simp)
 rw [← hW] at HFN H2
 have HWW:=Lib.hid hW
 have k0:W.cell? ⟨w.heap.size,0,none⟩=some (.int .u8 f):=hK.cell 0
 have k1:W.cell? ⟨w.heap.size,1,none⟩=some (.int .u8 t):=hK.cell 1
 have k2:W.cell? ⟨w.heap.size,2,none⟩=some (.int .u8 b):=hK.cell 2
 have k3:W.cell? ⟨w.heap.size,3,none⟩=some (.int .u8 lt):=hK.cell 3
 have k4:W.cell? ⟨w.heap.size,4,none⟩=some (.int .u32 lp):=hK.cell 4
 have k5:W.cell? ⟨w.heap.size,5,none⟩=some (.int .u8 ht):=hK.cell 5
 have k6:W.cell? ⟨w.heap.size,6,none⟩=some (.int .u32 hp):=hK.cell 6
 have HZ:=Lib.hid hZ
 have HK:=Lib.hid hK
 clear h hr hfr hri hlo hhi hK hZ
 go_enter Tryz.func92,Tryz.ntmps92
 go_wp2_with fail
 rw [← HWW.out]
 clear hW
 refine HFN.out.mono ?_
 clear k0 k1 k2 k3 k4 k5 k6
 rintro e w1 (⟨id,cs2,free2,rfl,hid,hrec,hgr,hT⟩|⟨rfl,hfull,hT⟩)
 ·have HT:=Lib.hid hT
  have hB:=HZ.out.chg hT.2 (fun hm=>by have:=hF.out _ hm;omega)
  have hB2:=HK.out.chg hT.2 (fun hm=>by have:=hF.out _ hm;omega)
  have n0:w1.cell? ⟨w.heap.size+1,0,none⟩=some (.int .u8 0):=hB.cell 0
  have n1:w1.cell? ⟨w.heap.size+1,1,none⟩=some (.int .u32 0):=hB.cell 1
  have z0:=hB.frozen 0
  have z1:=hB.frozen 1
  have k1:w1.cell? ⟨w.heap.size,1,none⟩=some (.int .u8 t):=hB2.cell 1
  have HG:=Lib.hid (And.intro hrec hgr)
  clear hT hB hB2 hrec hgr
  go_wp2_with fail
  refine bodyPost_ret (v:= .tuple #[.agg (⟨t,(id:Int)⟩:Edg).cells.toArray,.int .u8 0]) ?_ rfl (.inl ⟨⟨t,(id:Int)⟩,cs2,free2,rfl,⟨rfl,HG.out.1⟩,HG.out.2,?_⟩)
  ·simp [results,Tryz.results92,go_sem,Edg.cells, *]
  ·exact sto_down H2.out hF.out HT.out (((Chg.refl [w.heap.size+1] w1).setCell (.inl (by simp)) _).setCell (.inl (by simp)) _) (fun k hk=>by have:=HWS.out;simp at hk;omega)
 ·have HT:=Lib.hid hT
  have hB:=HZ.out.chg hT.2 (fun hm=>by have:=hF.out _ hm;omega)
  have n0:w1.cell? ⟨w.heap.size+1,0,none⟩=some (.int .u8 0):=hB.cell 0
  have n1:w1.cell? ⟨w.heap.size+1,1,none⟩=some (.int .u32 0):=hB.cell 1
  have z0:=hB.frozen 0
  have z1:=hB.frozen 1
  have HG:=Lib.hid hfull
  clear hT hB hfull
  go_wp2_with fail
  refine bodyPost_ret (v:= .tuple #[.agg Edg.nil.cells.toArray,.int .u8 6]) ?_ rfl (.inr ⟨cs,free,rfl,HG.out,Grow.refl HFR.out 1,?_⟩)
  ·simp [results,Tryz.results92,go_sem,Edg.cells,Edg.nil, *]
  ·exact sto_down H2.out hF.out HT.out (((Chg.refl [w.heap.size+1] w1).setCell (.inl (by simp)) _).setCell (.inl (by simp)) _) (fun k hk=>by have:=HWS.out;simp at hk;omega)
end
end Go.Proofs.YtnlmlehcpngcgaaGreat
