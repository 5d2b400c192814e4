/- perm.Right: the packed search. Contracts: slices.Clone, slices.Index at []int; perm.Same, perm.factorial. Contracts: perm.Same, ramageref02.Self, All, Step. perm.Step: two neighbours are exchanged in a copy. perm.Steps: the steps from one permutation to another one. ramageref02.Steps: the document's steps. Plain facts on pairs that stand otherwise than in order, and on exchanges of neighbours. Contracts: perm.Then, perm.Inverse, ramageref02.Pairs, perm.Rank. Orders in memory; contracts of order.Of, New, Vars, Var, Level, Perm. -/
import Derived.Test.YtnlmlehcpngcgaaGreatQbj
import Derived.Test.YtnlmlehcpngcgaaGreatQaa
namespace Go.Proofs.YtnlmlehcpngcgaaGreat
set_option linter.unusedSimpArgs false
set_option linter.unusedVariables false
section
section
open Go.RowKit
def Seen (zs:List Int) (n k q:Nat):Prop:=
 q<65536∧(∀ j,q.testBit j=decide ((j:Int)∈zs.take k))∧(zs.take k).Nodup∧∀z∈zs.take k,0≤z∧z<n
theorem Seen.start (zs:List Int) (n:Nat):Seen zs n 0 0:=⟨by omega,by simp,by simp,by simp⟩
theorem Seen.step {zs:List Int} {n k q:Nat} {x:Int} (h:Seen zs n k q) (hk:k<zs.length) (hx:zs[k]?.getD 0=x) (h0:0≤x) (h1:x<n) (hn:n≤16) (hb:q.testBit x.toNat=false):Seen zs n (k+1) (q ||| 2^x.toNat):=by
 obtain ⟨a,b,c,d⟩:=h
 have hp:(2:Nat)^x.toNat<2^16:=Nat.pow_lt_pow_right (by omega) (by omega)
 rw [b] at hb
 have hb':¬((x.toNat:Nat):Int)∈zs.take k:=by simpa using hb
 rw [show ((x.toNat:Nat):Int)=x by omega] at hb'
 unfold Seen
 rw [take_succ_getD zs k hk,hx]
 refine ⟨Nat.or_lt_two_pow (n:=16) a hp,fun j=>?_,?_,?_⟩
 ·rw [testBit_or_pow,b,Bool.eq_iff_iff]
  simp only [Bool.or_eq_true,decide_eq_true_eq,List.mem_append,List.mem_singleton]
  constructor
  ·rintro (h|h)
   ·exact .inl h
   ·right;omega
  ·rintro (h|h)
   ·exact .inl h
   ·right;omega
 ·rw [List.nodup_append]
  refine ⟨c,by simp,?_⟩
  intro y hy z hz
  simp at hz
  subst hz
  rintro rfl
  exact hb' hy
 ·intro z hz
  rcases List.mem_append.1 hz with h|h
  ·exact d z h
  ·simp at h;subst h;exact ⟨h0,h1⟩
theorem not_perm_out {zs:List Int} {k:Nat} {x:Int} (hk:k<zs.length) (hx:zs[k]?.getD 0=x) (h:¬(0≤x∧x<(zs.length:Int))):¬IsPerm zs:=by
 intro hp
 have:=hp.2.2 _ (getD_mem zs k hk)
 rw [hx] at this
 exact h this
theorem not_perm_twice {zs:List Int} {n k q:Nat} {x:Int} (h:Seen zs n k q) (hk:k<zs.length) (hx:zs[k]?.getD 0=x) (h0:0≤x) (hb:q.testBit x.toNat=true):¬IsPerm zs:=by
 intro hp
 rw [h.2.1] at hb
 have hb':((x.toNat:Nat):Int)∈zs.take k:=by simpa using hb
 rw [show ((x.toNat:Nat):Int)=x by omega] at hb'
 have h1:(zs.take (k+1)).Nodup:=hp.2.1.sublist (List.take_sublist _ _)
 rw [take_succ_getD zs k hk,hx,List.nodup_append] at h1
 exact h1.2.2 x hb' x (by simp) rfl
set_option maxRecDepth 100000 in
set_option maxHeartbeats 400000 in
theorem prmRight_any (A:Option Addr) (n c:Nat) (zs:List Int) (w:World) (hz:zs.length=n) (hn:n≤9223372036854775807) (hr:Ints w w.heap.size A zs) :
  Calls Tryz.prog 65 #[.slice A n c] w fun e w'=>e = .returned (.bool (decide (IsPerm zs)))∧w=w':=by
 have Hz:=Lib.hid hz
 clear hz
 by_cases h16:n≤16
 ·go_enter Tryz.func65,Tryz.ntmps65
  go_wp2
  go_loop [3,5,11] (fun s _ i=>∃k q:Nat,k≤n∧i = .int .i64 k∧s = .int .i64 q∧Seen zs n k q) (fun _ _ i=>n-(intOf i).toNat)
  case atStart=>exact ⟨0,0,Nat.zero_le _,rfl,rfl,Seen.start _ _⟩
  case round=>
   obtain ⟨k,q,hk,rfl,rfl,HS⟩:=hrel
   have hq:q<65536:=HS.1
   by_cases hlt:k<n
   ·obtain ⟨b,off,rfl,hb,hc⟩:=hr (by rw [Hz.out];omega)
    have hck:=hc k (by rw [Hz.out];omega)
    clear hc
    generalize hx:zs[k]?.getD 0=x at hck
    have Hx:=Lib.hid hx
    clear hx
    by_cases hx0:0≤x∧x<n
    ·obtain ⟨h0,h1⟩:=hx0
     have hbt:=bit_test q (by omega) x h0
     have HO:=Lib.hid (or_pow q (by omega) x.toNat (by omega))
     cases htb:q.testBit x.toNat
     ·have hbf:(bits BinOp.and IntKind.i64 ((q:Int)/2^x.toNat) 1==1)=false:=by rw [hbt,htb];rfl
      have HT:=Lib.hid htb
      clear hbt htb
      go_wp2
      go_round
      case rel=>exact ⟨k+1,_,by omega,by go_num,by rw [HO.out],HS.step (by rw [Hz.out];exact hlt) Hx.out h0 h1 h16 HT.out⟩
      case measure=>simp [intOf];omega
     ·have hbf:(bits BinOp.and IntKind.i64 ((q:Int)/2^x.toNat) 1==1)=true:=by rw [hbt,htb];rfl
      have HT:=Lib.hid htb
      clear hbt htb
      go_wp2
      go_ret
      refine ⟨?_,rfl⟩
      show Ending.returned (.bool false)=_
      rw [decide_eq_false (not_perm_twice HS (by rw [Hz.out];exact hlt) Hx.out h0 HT.out)]
    ·have hnp:Hid (¬ IsPerm zs):=Lib.hid (not_perm_out (by rw [Hz.out];exact hlt) Hx.out (by rw [Hz.out];exact hx0))
     by_cases h0:0≤x
     ·have h1:(n:Int)≤x:=by omega
      clear hx0
      go_wp2
      go_ret
      exact ⟨by show Ending.returned (.bool false)=_;rw [decide_eq_false hnp.out],rfl⟩
     ·clear hx0
      go_wp2
      go_ret
      exact ⟨by show Ending.returned (.bool false)=_;rw [decide_eq_false hnp.out],rfl⟩
   ·have hkn:k=n:=by omega
    have Hk:=Lib.hid hkn
    clear hkn
    go_wp2
    go_ret
    refine ⟨?_,rfl⟩
    show Ending.returned (.bool true)=_
    rw [decide_eq_true]
    obtain ⟨_,_,c,d⟩:=HS
    rw [Hk.out,←Hz.out,List.take_length] at c d
    exact ⟨by rw [Hz.out];exact h16,c,d⟩
 ·go_enter Tryz.func65,Tryz.ntmps65
  go_wp2
  go_ret
  refine ⟨?_,rfl⟩
  show Ending.returned (.bool false)=_
  rw [decide_eq_false]
  intro h;have:=h.1;rw [Hz.out] at this;omega
end
section
open Go.RowKit
set_option maxRecDepth 100000 in
set_option maxHeartbeats 400000 in
theorem clone_any (A:Option Addr) (n c:Nat) (zs:List Int) (w:World) (hz:zs.length=n) (hn:n≤34359738367) (hr:Ints w w.heap.size A zs) :
  Calls Tryz.prog 53 #[.slice A n c] w fun e w'=>∃v,e = .returned v∧OwnI w' w.heap.size v zs∧Below w.heap.size w w':=by
 obtain ⟨i0,hi,hz0,hz1,hz2⟩:=info_parts info_int
 have heq:=fun (W:World)=>Lib.run_eql_slice_nil (P:=Tryz.prog) W 85 3 A n c 0 0 Tryz.underlying85
 rcases A with _|ad
 ·have hn0:zs=[]:=by
   cases zs with
   | nil=>rfl
   | cons z r=>obtain ⟨_,_,h,_⟩:=hr (by simp);cases h
  subst hn0
  go_enter Tryz.func53,Tryz.ntmps53
  go_wp2
  go_ret
  exact ⟨_,rfl,OwnF.nil_,Below.refl _ _⟩
 ·have hsrc:=Lib.hid ((hr.src hz).alloc (.cells #[] 3))
  have hown0:OwnI (w.alloc (.cells #[] 3)) w.heap.size (.slice (some ⟨w.heap.size,0,none⟩) 0 0) []:=World.ownsRow_lit w #[] 0 (Nat.le_refl _) (by unfold maxLen;omega) rfl
  have hown:=Lib.hid hown0
  clear hown0 hz hr
  go_enter Tryz.func53,Tryz.ntmps53
  go_wp2_with (at_builtin;refine wp_appN (f:=Value.int .i64) Tryz.underlying85 hi hz0 hz1 hz2 rfl (by omega) _ rfl _ _ rfl w.heap.size _ [] zs (some ad) n c (fun _=>rfl) hown.out hsrc.out (by simp) (by simp;omega) rfl rfl ?_;intro v1 w1 hown1 hb1 hs1 hg1 hv1)
  go_ret
  simp only [List.nil_append] at hown1
  exact ⟨_,rfl,hown1,((Below.refl _ _).alloc (Nat.le_refl _) _).trans hb1⟩
end
section
open Go.RowKit
def iota (n:Nat):List Int:=(List.range n).map fun (i:Nat)=>(i:Int)
theorem iota_length (n:Nat):(iota n).length=n:=by simp [iota]
theorem iota_get {n k:Nat} (h:k<n):(iota n)[k]?.getD 0=(k:Int):=by
 unfold iota
 rw [List.getElem?_map,List.getElem?_range h];rfl
theorem iota_succ (n:Nat):iota (n+1)=iota n++[(n:Int)]:=by
 unfold iota
 rw [List.range_succ,List.map_append];rfl
theorem iota_perm {n:Nat} (h:n≤16):IsPerm (iota n):=by
 refine ⟨by rw [iota_length];exact h,?_,?_⟩
 ·unfold iota
  refine List.nodup_range.map (f:=fun (i:Nat)=>(i:Int)) ?_
  intro a b hab h
  have h':(a:Int)=(b:Int):=h
  omega
 ·intro z hz
  unfold iota at hz
  obtain ⟨i,hi,rfl⟩:=List.mem_map.1 hz
  rw [iota_length]
  have:=List.mem_range.1 hi
  omega
set_option maxRecDepth 100000 in
set_option maxHeartbeats 400000 in
theorem permSame_any (n:Int) (w:World) (h0:0≤n) (hn:n≤16) :
  Calls Tryz.prog 33 #[.int .i64 n] w fun e w'=>
   e = .returned (.tuple #[.slice (some ⟨w.heap.size,0,none⟩) n.toNat n.toNat,.bool true])∧OwnI w' w.heap.size (.slice (some ⟨w.heap.size,0,none⟩) n.toNat n.toNat) (iota n.toNat)∧Below w.heap.size w w'∧w.heap.size<w'.heap.size:=by
 obtain ⟨m,rfl⟩:=Int.eq_ofNat_of_zero_le h0
 rw [Int.toNat_natCast]
 have hm:m≤16:=by omega
 clear h0 hn
 obtain ⟨i0,hi,hz0,hz1,hz2⟩:=info_parts info_int
 go_enter Tryz.func33,Tryz.ntmps33
 go_wp2_with (at_make;refine wp_make (f:=Value.int .i64) Tryz.underlying85 hi hz0 hz1 hz2 rfl _ rfl _ _ rfl (m:Int) m rfl rfl rfl (by omega) (by unfold maxLen;omega) ?_;intro w1 hown1 hb1 hs1)
 go_loopw [5,16] (fun _ i wr=>∃k:Nat,k≤m∧i = .int .i64 k∧OwnI wr w.heap.size (.slice (some ⟨w.heap.size,0,none⟩) m m) (iota k++List.replicate (m-k) 0)∧Below w.heap.size w wr∧w.heap.size<wr.heap.size) (fun _ i _=>m-(intOf i).toNat)
 case atStart=>exact ⟨0,Nat.zero_le _,rfl,hown1,hb1,hs1⟩
 case round=>
  obtain ⟨k,hk,rfl,hown,hb,hsz⟩:=hrel
  by_cases hlt:k<m
  ·have hg:=OwnF.at_ hown k (by rw [List.length_append,iota_length,List.length_replicate];omega)
   have hc:∃u,wr.cell? ⟨w.heap.size,k,none⟩=some u:=by
    rw [hg.1,List.getElem?_eq_getElem (by rw [List.length_append,iota_length,List.length_replicate];omega)]
    exact ⟨_,rfl⟩
   obtain ⟨u,hc⟩:=hc
   have hf:=hg.2
   have hst:=OwnF.set_ hown k (k:Int)
   have hset:(iota k++List.replicate (m-k) 0).set k (k:Int)=iota (k+1)++List.replicate (m-(k+1)) 0:=by
    rw [List.set_append_right _ _ (by rw [iota_length];exact Nat.le_refl _),iota_length,Nat.sub_self,iota_succ,show m-k=(m-(k+1))+1 by omega,List.replicate_succ]
    simp
   rw [hset] at hst
   have hbs:=hb.setCell (p:=⟨w.heap.size,k,none⟩) (Nat.le_refl _) (.int .i64 (k:Int))
   clear hset hg hown hown1 hb1
   go_wp2
   go_roundw
   case rel=>exact ⟨k+1,by omega,by go_num,hst,hbs,by simpa [World.setCell] using hsz⟩
   case measure=>simp [intOf];omega
  ·have hkm:k=m:=by omega
   rw [show iota k++List.replicate (m-k) 0=iota m by subst hkm;simp] at hown
   have hown':=Lib.hid hown
   clear hown hkm hown1
   go_wp2
   go_ret2
   exact ⟨rfl,hown'.out,hb,hsz⟩
end
section
open Go.RowKit
end
section
open Go.RowKit
end
section
open Go.RowKit
end
section
open Go.RowKit
def inv:List Int→Nat
 | []=>0
 | x::r=>r.countP (fun y=>decide (y<x))+inv r
theorem IsPerm.inj {l:List Int} (h:IsPerm l) {i j:Nat} (hi:i<l.length) (hj:j<l.length) (he:l[i]?.getD 0=l[j]?.getD 0):i=j:=by
 rw [List.getElem?_eq_getElem hi,List.getElem?_eq_getElem hj] at he
 have hp:=List.pairwise_iff_getElem.1 h.2.1
 rcases Nat.lt_trichotomy i j with h1|h1|h1
 ·exact absurd he (hp i j hi hj h1)
 ·exact h1
 ·exact absurd he.symm (hp j i hj hi h1)
end
section
open Go.RowKit
def InvOf (ps L:List Int):Prop:=L.length=ps.length∧∀i:Nat,i<ps.length→L[(ps[i]?.getD 0).toNat]?.getD 0=(i:Int)
set_option maxRecDepth 100000 in
set_option maxHeartbeats 1000000 in
theorem inverse_yes (A:Option Addr) (n c:Nat) (ps:List Int) (w:World) (hp:ps.length=n) (hP:IsPerm ps) (ha:Ints w w.heap.size A ps) :
  Calls Tryz.prog 52 #[.slice A n c] w fun e w'=>∃L,e = .returned (.tuple #[.slice (some ⟨w.heap.size,0,none⟩) n n,.bool true])∧OwnI w' w.heap.size (.slice (some ⟨w.heap.size,0,none⟩) n n) L∧InvOf ps L∧Below w.heap.size w w':=by
 obtain ⟨i0,hi,hz0,hz1,hz2⟩:=info_parts info_int
 have hn16:n≤16:=by rw [← hp];exact hP.1
 have Hp:=Lib.hid hp
 have HP:=Lib.hid (decide_eq_true hP)
 have HP':=Lib.hid hP
 clear hp hP
 go_enter Tryz.func52,Tryz.ntmps52
 go_wp2_with fail
 refine (prmRight_any A n c ps _ Hp.out (by omega) ha).mono ?_
 rintro e w' ⟨rfl,rfl⟩
 rw [HP.out]
 go_wp2_with (at_make;refine wp_make (f:=Value.int .i64) Tryz.underlying85 hi hz0 hz1 hz2 rfl _ rfl _ _ rfl (n:Int) n rfl rfl rfl (by omega) (by unfold maxLen;omega) ?_;intro w1 hown1 hb1 hs1)
 have ha1:=ha.below' hb1
 go_loopw [5,6,15] (fun _ _ i wr=>∃(k:Nat) (L:List Int),k≤n∧i = .int .i64 k∧OwnI wr w.heap.size (.slice (some ⟨w.heap.size,0,none⟩) n n) L∧L.length=n∧(∀ i:Nat,i<k→L[(ps[i]?.getD 0).toNat]?.getD 0=(i:Int))∧Below w.heap.size w1 wr) (fun _ _ i _=>n-(intOf i).toNat)
 case atStart=>exact ⟨0,List.replicate n 0,Nat.zero_le _,rfl,hown1,by simp,by omega,Below.refl _ _⟩
 case round=>
  obtain ⟨k,L,hk,rfl,hown,hL,hLi,hbw⟩:=hrel
  have HL:=Lib.hid hL
  have HLi:=Lib.hid hLi
  clear hL hLi
  by_cases hlt:k<n
  ·obtain ⟨ba,oa,rfl,hba,hca⟩:=ha1 (by rw [Hp.out];omega)
   have hx:=HP'.out.get (k:=k) (by rw [Hp.out];exact hlt)
   rw [Hp.out] at hx
   have hck:=(hbw.cell (p:=⟨ba,oa+k,none⟩) hba).trans (hca k (by rw [Hp.out];exact hlt))
   have HX:Hid (ps[k]?.getD 0=ps[k]?.getD 0):=Lib.hid rfl
   generalize hxe:ps[k]?.getD 0=x at hck hx HX
   have HXE:=Lib.hid hxe
   clear hxe HX
   obtain ⟨hx0,hx1⟩:=hx
   have hg:=OwnF.at_ hown x.toNat (by rw [HL.out];omega)
   have hc:∃u,wr.cell? ⟨w.heap.size,x.toNat,none⟩=some u:=by
    rw [hg.1,List.getElem?_eq_getElem (by rw [HL.out];omega)]
    exact ⟨_,rfl⟩
   obtain ⟨u,hc⟩:=hc
   have hf:=hg.2
   have hst:=OwnF.set_ hown x.toNat (k:Int)
   have hbs:=hbw.setCell (p:=⟨w.heap.size,x.toNat,none⟩) (Nat.le_refl _) (.int .i64 (k:Int))
   clear hg hown hown1 hca
   go_wp2
   go_roundw
   case rel=>exact ⟨k+1,L.set x.toNat (k:Int),by omega,by go_num,hst,by rw [List.length_set];exact HL.out,fun i hi=>by
     rcases Nat.lt_succ_iff_lt_or_eq.1 hi with h|h
     ·have h1:=HP'.out.get (k:=i) (by rw [Hp.out];omega)
      have hne:x.toNat≠(ps[i]?.getD 0).toNat:=by
       intro e
       have:=HP'.out.inj (i:=i) (j:=k) (by rw [Hp.out];omega) (by rw [Hp.out];omega) (by rw [HXE.out];omega)
       omega
      rw [List.getElem?_set_ne hne]
      exact HLi.out i h
     ·subst h
      rw [HXE.out,List.getElem?_set_self (by rw [HL.out];omega)];rfl,hbs⟩
   case measure=>simp [intOf];omega
  ·have hkn:k=n:=by omega
   have HI:Hid (InvOf ps L):=Lib.hid ⟨by rw [HL.out,Hp.out],fun i hi=>HLi.out i (by rw [Hp.out] at hi;omega)⟩
   clear hkn hown1
   go_wp2
   go_ret2
   exact ⟨L,rfl,hown,HI.out,hb1.trans hbw⟩
end
section
open Go.RowKit
def OrdAt (w:World) (F:List Nat) (g:Nat) (ps ls:List Int):Prop:=
 ∃(A:Option Addr) (n c:Nat) (A':Option Addr) (c':Nat),Blk w g 132 #[.slice A n c,.slice A' n c']∧OwnI w 0 (.slice A n c) ps∧OwnI w 0 (.slice A' n c') ls∧ps.length=n∧ls.length=n∧
  F=g::(blk (.slice A n c)++blk (.slice A' n c'))∧F.Nodup
theorem OrdAt.chg {w w':World} {F G:List Nat} {g:Nat} {ps ls:List Int} (h:OrdAt w F g ps ls) (hb:Chg G w w') (hd:∀k∈F,¬k∈G):OrdAt w' F g ps ls:=by
 obtain ⟨A,n,c,A',c',h1,h2,h3,h4,h5,rfl,h7⟩:=h
 exact ⟨A,n,c,A',c',h1.chg hb (hd g (by simp)),h2.chg hb (fun k hk=>hd k (by simp [hk])),h3.chg hb (fun k hk=>hd k (by simp [hk])),h4,h5,rfl,h7⟩
theorem OrdAt.lt {w:World} {F:List Nat} {g:Nat} {ps ls:List Int} (h:OrdAt w F g ps ls):∀k∈F,k<w.heap.size:=by
 obtain ⟨A,n,c,A',c',h1,h2,h3,h4,h5,rfl,h7⟩:=h
 intro k hk
 rcases List.mem_cons.1 hk with rfl|hk
 ·exact h1.lt
 ·rcases List.mem_append.1 hk with hk|hk
  ·exact OwnF.blk_lt h2 k hk
  ·exact OwnF.blk_lt h3 k hk
set_option maxHeartbeats 1000000 in
theorem orderOf_yes (A:Option Addr) (n c:Nat) (ps:List Int) (w:World) (hp:ps.length=n) (hP:IsPerm ps) (ha:Ints w w.heap.size A ps) :
  Calls Tryz.prog 34 #[.slice A n c] w fun e w'=>∃g F ls,e = .returned (.tuple #[.pointer (some ⟨g,0,none⟩),.int .u8 0])∧OrdAt w' F g ps ls∧InvOf ps ls∧(∀ k∈F,w.heap.size≤k)∧Below w.heap.size w w':=by
 have Hp:=Lib.hid hp
 have HP:=Lib.hid hP
 have hn16:n≤16:=by rw [← hp];exact hP.1
 clear hp hP
 go_enter Tryz.func34,Tryz.ntmps34
 go_wp2_with fail
 refine (inverse_yes A n c ps _ Hp.out HP.out ha).mono ?_
 rintro e w1 ⟨L,rfl,hownL,hinv,hb1⟩
 have HV:=Lib.hid hinv
 clear hinv
 go_wp2_with fail
 refine (clone_any A n c ps _ Hp.out (by omega) (ha.on hb1)).mono ?_
 rintro e w2 ⟨v,rfl,hownC,hb2⟩
 have hownL2:=hownL.below hb2
 obtain ⟨A2,n2,c2,rfl,h2,_⟩:=OwnF.form hownC
 obtain rfl:n=n2:=by rw [← h2,Hp.out]
 clear h2
 go_wp2_with fail
 go_ret2
 refine ⟨_,_,L,rfl,⟨_,_,_,_,_,Blk.new _ _ _,(hownC.alloc _).zero,(hownL2.alloc _).zero,Hp.out,by rw [HV.out.1,Hp.out],rfl,?_⟩,HV.out,?_,?_⟩
 ·have hs:=hb1.size
  have hs2:=hb2.size
  have hc:=OwnF.blk_ge hownC
  have hc2:=OwnF.blk_lt hownC
  have hL:=OwnF.blk_lt hownL
  rw [List.nodup_cons,List.nodup_append]
  refine ⟨fun hm=>?_,?_,?_,fun a ha b hb e=>?_⟩
  ·rcases List.mem_append.1 hm with h|h
   ·have:=hc2 _ h;omega
   ·have:=hL _ h;omega
  ·unfold blk;cases (Value.slice A2 n c2).ownBlock<;>simp
  ·unfold blk;simp [Value.ownBlock]
  ·have:=hc a ha;have:=hL b hb;omega
 ·intro k hk
  have hs:=hb1.size
  have hs2:=hb2.size
  rcases List.mem_cons.1 hk with rfl|hk
  ·omega
  ·rcases List.mem_append.1 hk with hk|hk
   ·have:=OwnF.blk_ge hownC k hk;omega
   ·have:=OwnF.blk_ge hownL k hk;omega
 ·exact (hb1.trans (hb2.mono hb1.size)).alloc (by have:=hb1.size;have:=hb2.size;omega) _
set_option maxHeartbeats 1000000 in
theorem orderNew_yes (n:Int) (w:World) (h0:0≤n) (hn:n≤16) :
  Calls Tryz.prog 14 #[.int .i64 n] w fun e w'=>∃g F ls,e = .returned (.tuple #[.pointer (some ⟨g,0,none⟩),.int .u8 0])∧OrdAt w' F g (iota n.toNat) ls∧InvOf (iota n.toNat) ls∧(∀ k∈F,w.heap.size≤k)∧Below w.heap.size w w':=by
 go_enter Tryz.func14,Tryz.ntmps14
 go_wp2_with fail
 refine (permSame_any n _ h0 hn).mono ?_
 rintro e w1 ⟨rfl,hown,hb1,_⟩
 go_wp2_with fail
 refine (orderOf_yes _ n.toNat n.toNat (iota n.toNat) _ (iota_length _) (iota_perm (by omega)) (OwnI.ints hown)).mono ?_
 rintro e w2 ⟨g,F,ls,rfl,hO,hI,hF,hb2⟩
 go_wp2_with fail
 go_ret2
 have hs:=hb1.size
 exact ⟨g,F,ls,rfl,hO,hI,fun k hk=>by have:=hF k hk;omega,hb1.trans (hb2.mono hs)⟩
def atI (zs:List Int) (i:Int):Int:=if 0≤i∧i<zs.length then zs[i.toNat]?.getD 0 else -1
theorem orderAt_any (A:Option Addr) (n c:Nat) (zs:List Int) (i:Int) (w:World) (hz:zs.length=n) (hr:Ints w w.heap.size A zs) :
  Calls Tryz.prog 58 #[.slice A n c,.int .i64 i] w fun e w'=>e = .returned (.int .i64 (atI zs i))∧w=w':=by
 by_cases h0:0≤i
 ·by_cases h1:i<n
  ·obtain ⟨k,rfl⟩:=Int.eq_ofNat_of_zero_le h0
   have hk:k<n:=by omega
   obtain ⟨b,off,rfl,hb,hc⟩:=hr (by rw [hz];omega)
   have hck:=hc k (by rw [hz];exact hk)
   have he:Hid (atI zs (k:Int)=zs[k]?.getD 0):=Lib.hid (by unfold atI;rw [if_pos ⟨h0,by rw [hz];exact h1⟩,Int.toNat_natCast])
   clear hc hz h0 h1
   go_enter Tryz.func58,Tryz.ntmps58
   go_wp2_with fail
   go_ret
   exact ⟨by rw [he.out];rfl,rfl⟩
  ·have he:Hid (atI zs i = -1):=Lib.hid (by unfold atI;rw [if_neg (by rw [hz];omega)])
   clear hz
   have h2:¬i<0:=by omega
   go_enter Tryz.func58,Tryz.ntmps58
   go_wp2_with fail
   go_ret
   exact ⟨by rw [he.out];rfl,rfl⟩
 ·have he:Hid (atI zs i = -1):=Lib.hid (by unfold atI;rw [if_neg (by omega)])
  clear hz
  have h2:i<0:=by omega
  go_enter Tryz.func58,Tryz.ntmps58
  go_wp2_with fail
  go_ret
  exact ⟨by rw [he.out];rfl,rfl⟩
theorem orderVars_any (F:List Nat) (g:Nat) (ps ls:List Int) (w:World) (h:OrdAt w F g ps ls) :
  Calls Tryz.prog 54 #[.pointer (some ⟨g,0,none⟩)] w fun e w'=>e = .returned (.int .i64 ps.length)∧w=w':=by
 obtain ⟨A,n,c,A',c',hB,h1,h2,hl1,hl2,_,_⟩:=h
 have hc0:w.cell? ⟨g,0,none⟩=some (.slice A n c):=hB.cell 0
 have H:=Lib.hid hl1
 clear hl1 hl2
 go_enter Tryz.func54,Tryz.ntmps54
 go_wp2_with fail
 go_ret
 exact ⟨by rw [H.out];rfl,rfl⟩
theorem orderLevel_any (F:List Nat) (g:Nat) (ps ls:List Int) (i:Int) (w:World) (h:OrdAt w F g ps ls) :
  Calls Tryz.prog 46 #[.pointer (some ⟨g,0,none⟩),.int .i64 i] w fun e w'=>e = .returned (.int .i64 (atI ls i))∧w=w':=by
 obtain ⟨A,n,c,A',c',hB,h1,h2,hl1,hl2,_,_⟩:=h
 have hc0:w.cell? ⟨g,1,none⟩=some (.slice A' n c'):=hB.cell 1
 have H:=Lib.hid hl2
 clear hl1 hl2
 go_enter Tryz.func46,Tryz.ntmps46
 go_wp2_with fail
 refine (orderAt_any A' n c' ls i _ H.out (OwnI.ints h2)).mono ?_
 rintro e w' ⟨rfl,rfl⟩
 go_wp2_with fail
 go_ret
 exact ⟨rfl,rfl⟩
end
end
end Go.Proofs.YtnlmlehcpngcgaaGreat
