/- Indexes of records in memory; contracts of home, next, New. Contract: index.find. Contract: index.grow. Contracts: index.New, Get, Put. Contracts: index.New, Get. Stores in memory; contracts of New, Vars, Len, Room, Get. -/
import Derived.Test.YtnlmlehcpngcgaaGreatQaf
import Derived.Test.YtnlmlehcpngcgaaGreatQac
import Derived.StillTailTactics
import Derived.Deep.RegionHeld3
import Derived.Test.YtnlmlehcpngcgaaGreatQag
namespace Go.Proofs.YtnlmlehcpngcgaaGreat
set_option linter.unusedSimpArgs false
set_option linter.unusedVariables false
section
section
open Go.RowKit
def slotEnc:Option (Rec×Nat)→List Value
 | some (r,id)=>r.cells++[.int .u32 id,.bool true]
 | none=>Rec.nil.cells++[.int .u32 0,.bool false]
theorem slotEnc_len (x:Option (Rec×Nat)):(slotEnc x).length=9:=by
 cases x with
 | none=>rfl
 | some y=>cases y;rfl
theorem slotEnc_one (x:Option (Rec×Nat)):∀u∈slotEnc x,u.oneCell'=true:=by
 cases x with
 | none=>simp [slotEnc,Rec.cells,Value.oneCell']
 | some y=>cases y;simp [slotEnc,Rec.cells,Value.oneCell']
def hshI (r:Rec):Int:=bits .xor .u64 (IntKind.u64.wrap (hashV r*11400714819323198485)) (IntKind.u64.wrap (hashV r*11400714819323198485)/4294967296)
def hsh (r:Rec):Nat:=(hshI r).toNat
def plc (r:Rec) (n d:Nat):Nat:=(hsh r+d)%n
def nxt (i n:Nat):Nat:=(i+1)%n
theorem plc_next (r:Rec) (n d:Nat):nxt (plc r n d) n=plc r n (d+1):=by unfold nxt plc;rw [Nat.mod_add_mod,Nat.add_assoc]
theorem plc_zero (r:Rec) (n:Nat):(((hshI r).toNat%n:Nat):Int)=(plc r n 0:Nat):=by unfold plc hsh;rw [Nat.add_zero]
theorem hshI_range (r:Rec):0≤hshI r∧hshI r≤18446744073709551615:=u64_wrap_range _
theorem u64_and_nat' (a b:Nat) (ha:a<18446744073709551616) (hb:b<18446744073709551616):bits .and .u64 (a:Int) (b:Int)=((a &&& b:Nat):Int):=by
 have hx:a &&& b<2^64:=Nat.and_lt_two_pow _ (by omega)
 show IntKind.u64.wrap ((BitVec.ofInt 64 (a:Int) &&& BitVec.ofInt 64 (b:Int)).toNat:Int)=_
 rw [BitVec.toNat_and,ofInt_u64 a (by omega),ofInt_u64 b (by omega),IntKind.wrap_u64]
 omega
theorem mask_eq (x:Int) (n:Nat) (h0:0≤x) (h1:x≤18446744073709551615) (hn:∃q,q≤40∧n=2^q):wrap64 (bits .and .u64 x (IntKind.u64.wrap (wrap64 ((n:Int)-1))))=((x.toNat%n:Nat):Int):=by
 obtain ⟨q,hq,hn⟩:=hn
 have hp:0<2^q:=Nat.two_pow_pos q
 have hb:2^q≤2^40:=Nat.pow_le_pow_right (by omega) hq
 have e1:IntKind.u64.wrap (wrap64 ((n:Int)-1))=((n-1:Nat):Int):=by
  rw [IntKind.wrap_u64];unfold wrap64;omega
 obtain ⟨y,rfl⟩:=Int.eq_ofNat_of_zero_le h0
 rw [e1,u64_and_nat' y (n-1) (by omega) (by omega),hn,Nat.and_two_pow_sub_one_eq_mod,Int.toNat_natCast]
 have:y%2^q<2^q:=Nat.mod_lt _ hp
 unfold wrap64
 omega
theorem method_hash (n:Nat) (cs:Array Value) (w:World):(method (n+1) 82 (.agg cs) "Hash").run Tryz.prog w = .ok (175,.agg cs) w:=by kernel_rfl
set_option maxRecDepth 100000 in
set_option maxHeartbeats 1000000 in
theorem home_any (A:Option Addr) (g n c:Nat) (k:Value) (r:Rec) (w:World) (hB:Blk w g 128 #[.slice A n c,k]) (hn:Hid (∃ q,q≤40∧n=2^q)) (hr:r.Wf) :
  Calls Tryz.prog 113 #[.pointer (some ⟨g,0,none⟩),.agg r.cells.toArray] w fun e w'=>e = .returned (.int .i64 ((plc r n 0:Nat)))∧Below w.heap.size w w':=by
 have hlt:=hB.lt
 have hc0:w.cell? ⟨g,0,none⟩=some (.slice A n c):=hB.cell 0
 have HB:=Lib.hid hB
 have HR:=Lib.hid hr
 have hne:¬g=w.heap.size:=by omega
 obtain ⟨f,t,b,⟨lt,lp⟩,⟨ht,hp⟩⟩:=r
 simp only [Rec.cells]
 clear hB hr
 have hm:=method_hash
 go_enter Tryz.func113,Tryz.ntmps113
 go_wp2_with fail
 refine (hash_any ⟨f,t,b,⟨lt,lp⟩,⟨ht,hp⟩⟩ _ HR.out).mono ?_
 rintro e w1 ⟨rfl,hb1⟩
 have hc1:w1.cell? ⟨g,0,none⟩=some (.slice A n c):=(hb1.cell (p:=⟨g,0,none⟩) (by simp;omega)).trans ((World.cell?_alloc_lt _ _ ⟨g,0,none⟩ hlt).trans hc0)
 go_wp2_with fail
 go_ret
 refine ⟨ret_int ((mask_eq _ _ (hshI_range ⟨f,t,b,⟨lt,lp⟩,⟨ht,hp⟩⟩).1 (hshI_range ⟨f,t,b,⟨lt,lp⟩,⟨ht,hp⟩⟩).2 hn.out).trans (plc_zero _ _)),?_⟩
 exact ((Below.refl _ _).alloc (Nat.le_refl _) _).trans (hb1.mono (by simp))
theorem i64_and_mod (i n:Nat) (hi:i<1099511627776) (hn:∃q,q≤40∧n=2^q):bits .and .i64 ((i:Int)+1) ((n:Int)-1)=(((i+1)%n:Nat):Int):=by
 obtain ⟨q,hq,hn⟩:=hn
 have hp:0<2^q:=Nat.two_pow_pos q
 have hb:2^q≤2^40:=Nat.pow_le_pow_right (by omega) hq
 rw [show (i:Int)+1=((i+1:Nat):Int) by omega,show (n:Int)-1=((n-1:Nat):Int) by omega]
 have h1:=Nat.and_lt_two_pow (i+1) (y:=n-1) (n:=63) (by omega)
 show IntKind.i64.wrap ((BitVec.ofInt 64 ((i+1:Nat):Int) &&& BitVec.ofInt 64 ((n-1:Nat):Int)).toNat:Int)=_
 rw [BitVec.toNat_and,ofInt_u64 (i+1) (by omega),ofInt_u64 (n-1) (by omega),IntWalk.i64_in _ (by omega),hn,Nat.and_two_pow_sub_one_eq_mod]
theorem next_any (A:Option Addr) (g n c i:Nat) (k:Value) (w:World) (hB:Blk w g 128 #[.slice A n c,k]) (hn:Hid (∃ q,q≤40∧n=2^q)) (hi:i<n) :
  Calls Tryz.prog 112 #[.pointer (some ⟨g,0,none⟩),.int .i64 i] w fun e w'=>e = .returned (.int .i64 (nxt i n:Nat))∧w=w':=by
 have hc0:w.cell? ⟨g,0,none⟩=some (.slice A n c):=hB.cell 0
 have hn40:n≤1099511627776:=by
  obtain ⟨q,hq,hn⟩:=hn.out
  have hb:2^q≤2^40:=Nat.pow_le_pow_right (by omega) hq
  omega
 clear hB
 go_enter Tryz.func112,Tryz.ntmps112
 go_wp2_with fail
 go_ret
 exact ⟨ret_int (i64_and_mod i n (by omega) hn.out),rfl⟩
def SlotsAt (w:World) (F:List Nat) (g:Nat) (sl:List (Option (Rec×Nat))) (k:Nat):Prop:=
 ∃(A:Option Addr) (n c:Nat),Blk w g 128 #[.slice A n c,.int .i64 (k:Nat)]∧OwnS 9 slotEnc 201 w 0 (.slice A n c) sl∧sl.length=n∧F=g::blk (.slice A n c)∧F.Nodup
theorem SlotsAt.chg {w w':World} {F G:List Nat} {g k:Nat} {sl:List (Option (Rec×Nat))} (h:SlotsAt w F g sl k) (hb:Chg G w w') (hd:∀k∈F,¬k∈G):SlotsAt w' F g sl k:=by
 obtain ⟨A,n,c,h1,h2,h4,rfl,h7⟩:=h
 exact ⟨A,n,c,h1.chg hb (hd g (by simp)),h2.chg hb (fun k hk=>hd k (by simp [hk])),h4,rfl,h7⟩
theorem SlotsAt.on {w w':World} {F:List Nat} {g k:Nat} {sl:List (Option (Rec×Nat))} (h:SlotsAt w F g sl k) (hb:Below w.heap.size w w'):SlotsAt w' F g sl k:=h.chg (G:=[]) (chg_of_below hb) (fun _ _ h=>by cases h)
theorem SlotsAt.lt {w:World} {F:List Nat} {g k:Nat} {sl:List (Option (Rec×Nat))} (h:SlotsAt w F g sl k):∀k∈F,k<w.heap.size:=by
 obtain ⟨A,n,c,h1,h2,h4,rfl,h7⟩:=h
 intro k hk
 rcases List.mem_cons.1 hk with rfl|hk
 ·exact h1.lt
 ·exact OwnS.blk_lt h2 k hk
def SlotsOk (sl:List (Option (Rec×Nat))):Prop:=∀i k id,At sl i k id→k.Wf∧id≤4294967295
theorem rec_ne {f t b0 lt lp ht hp f' t' b' lt' lp' ht' hp':Int} (h:¬(f=f'∧t=t'∧b0=b'∧lt=lt'∧lp=lp'∧ht=ht'∧hp=hp')):((⟨f,t,b0,⟨lt,lp⟩,⟨ht,hp⟩⟩:Rec) != ⟨f',t',b',⟨lt',lp'⟩,⟨ht',hp'⟩⟩)=true:=by
 rw [bne_iff_ne]
 intro e
 injection e with e1 e2 e3 e4 e5
 injection e4 with e6 e7
 injection e5 with e8 e9
 exact h ⟨e1,e2,e3,e6,e7,e8,e9⟩
theorem Blk.on' {w w':World} {g:Nat} {t:TypeId} {cs:Array Value} (h:Blk w g t cs) (hb:Below w.heap.size w w'):Blk w' g t cs:=h.chg (F:=[]) (chg_of_below hb) (by simp)
theorem neq_rec (a b:Rec) (w:World) (x:Bool) (hx:(a != b)=x):(binOp .neq 82 (.agg a.cells.toArray) (.agg b.cells.toArray)).run Tryz.prog w = .ok (.bool x) w:=by
 obtain ⟨f,t,b0,⟨lt,lp⟩,⟨ht,hp⟩⟩:=a
 obtain ⟨f',t',b',⟨lt',lp'⟩,⟨ht',hp'⟩⟩:=b
 subst hx
 simp only [Rec.cells]
 by_cases hall:f=f'∧t=t'∧b0=b'∧lt=lt'∧lp=lp'∧ht=ht'∧hp=hp'
 ·obtain ⟨rfl,rfl,rfl,rfl,rfl,rfl,rfl⟩:=hall
  rw [bne_self_eq_false]
  go_simp
 ·rw [rec_ne hall]
  have H:=Lib.hid hall
  clear hall
  go_simp
  intro q1 q2 q3 q4 q5 q6 q7
  exact H.out ⟨q1,q2,q3,q4,q5,q6,q7⟩
end
section
open Go.RowKit
set_option maxRecDepth 100000 in
set_option maxHeartbeats 4000000 in
theorem find_any (F:List Nat) (g k:Nat) (sl:List (Option (Rec×Nat))) (r:Rec) (w:World) (hS:SlotsAt w F g sl k) (hn:Hid (∃ q,q≤40∧sl.length=2^q)) (hc:cnt sl<sl.length) (hr:r.Wf) :
  Calls Tryz.prog 111 #[.pointer (some ⟨g,0,none⟩),.agg r.cells.toArray] w fun e w'=>(∃ p,e = .returned (.int .i64 (p:Nat))∧Stops hsh sl r p)∧Below w.heap.size w w':=by
 obtain ⟨A,n,c,hB,hO,hln,rfl,hnd⟩:=hS
 obtain ⟨b,c0,hv,_,hbl,hcl⟩:=OwnS.head hO (by omega)
 injection hv with e1 e2 e3
 subst e1
 subst e3
 rw [hln] at hn e2
 clear e2
 have hlt:=hB.lt
 have hb:b≠g:=by
  rintro rfl
  simp [blk,Value.ownBlock] at hnd
 have hc0:w.cell? ⟨g,0,none⟩=some (.slice (some ⟨b,0,none⟩) n c):=hB.cell 0
 have hne:¬g=w.heap.size:=by omega
 have hbne:¬b=w.heap.size:=by omega
 have HB:=Lib.hid hB
 have HO:=Lib.hid hO
 have HL:=Lib.hid hln
 have HC:=Lib.hid hc
 have HR:=Lib.hid hr
 obtain ⟨f,t,bt,⟨lt,lp⟩,⟨ht,hp⟩⟩:=r
 simp only [Rec.cells]
 clear hB hr hnd hO hln hc
 go_enter Tryz.func111,Tryz.ntmps111
 go_wp2_with fail
 refine (home_any _ g n c _ ⟨f,t,bt,⟨lt,lp⟩,⟨ht,hp⟩⟩ _ (HB.out.alloc _) hn HR.out).mono ?_
 rintro e w1 ⟨rfl,hb1⟩
 go_wp2_with fail
 refine wp_gen (fun W=>Below w.heap.size w W∧Blk W w.heap.size 82 #[.int .u8 f,.int .u8 t,.int .u8 bt,.int .u8 lt,.int .u32 lp,.int .u8 ht,.int .u32 hp]) ⟨?_,?_⟩ ?_
 ·exact ((Below.refl _ _).alloc (Nat.le_refl _) _).trans (hb1.mono (by simp))
 ·exact (Blk.new w _ _).chg (F:=[]) (chg_of_below hb1) (by simp)
 rintro W ⟨hbW,hK⟩
 have hBW:=HB.out.on' hbW
 have hOW:=HO.out.chg (F:=[]) (chg_of_below hbW) (by simp)
 have hWlt:g<W.heap.size:=by have:=hbW.size;omega
 have hWltb:b<W.heap.size:=by have:=hbW.size;omega
 have hWltk:w.heap.size<W.heap.size:=hK.lt
 have HBW:=Lib.hid hBW
 have HOW:=Lib.hid hOW
 have HK:=Lib.hid hK
 have HbW:=Lib.hid hbW
 clear hBW hOW hK hbW hc0 hb1 hlt hbl hne hbne
 go_loopg [5] n (fun gk s5 wr=>Below W.heap.size W wr∧∃d,d≤n∧gk=n-d∧Past hsh sl ⟨f,t,bt,⟨lt,lp⟩,⟨ht,hp⟩⟩ d∧s5 = .int .i64 (plc ⟨f,t,bt,⟨lt,lp⟩,⟨ht,hp⟩⟩ n d:Nat))
 case atStart=>
  exact ⟨Below.refl _ _,0,Nat.zero_le _,(Nat.sub_zero n).symm,Past.zero _ _ _,rfl⟩
 case round=>
  obtain ⟨hbr,d,hd,rfl,hpast,rfl⟩:=hrel
  have hdn:d<n:=by have:=hpast.lt hsh HC.out;rw [HL.out] at this;exact this
  have HP:=Lib.hid hpast
  clear hpast
  obtain ⟨p,hpe⟩:∃p,p=plc ⟨f,t,bt,⟨lt,lp⟩,⟨ht,hp⟩⟩ n d:=⟨_,rfl⟩
  rw [← hpe]
  have hpn:p<n:=by rw [hpe];exact Nat.mod_lt _ (by omega)
  have HPP:=Lib.hid hpe
  clear hpe
  obtain ⟨x,hx⟩:∃x,sl[p]? =some x:=⟨_,List.getElem?_eq_getElem (by rw [HL.out];exact hpn)⟩
  have hat:=(OwnS.at_ slotEnc_len HOW.out p x hx).1
  have HX:=Lib.hid hx
  clear hx
  have hcr0:wr.cell? ⟨g,0,none⟩=some (.slice (some ⟨b,0,none⟩) n c):=(hbr.cell (p:=⟨g,0,none⟩) hWlt).trans (HBW.out.cell 0)
  have hslot:∀j v,(slotEnc x)[j]? =some v→wr.cell? ⟨b,p*9+j,none⟩=some v:=fun j v hv=>(hbr.cell (p:=⟨b,p*9+j,none⟩) hWltb).trans (hat j v hv)
  have hkey:∀j,wr.cell? ⟨w.heap.size,j,none⟩=_:=fun j=>(hbr.cell (p:=⟨w.heap.size,j,none⟩) hWltk).trans (HK.out.cell j)
  clear hat
  have Hbr:=Lib.hid hbr
  clear hbr
  cases x with
  | none=>
   have hin:wr.cell? ⟨b,p*9+8,none⟩=some (.bool false):=hslot 8 _ rfl
   clear hslot hkey
   go_wp2_with fail
   go_quiet (fail)
   go_wp2_with fail
   go_ret
   refine ⟨⟨p,rfl,?_⟩,?_⟩
   ·refine ⟨by rw [HL.out];exact hpn,⟨d,by rw [HL.out];exact HPP.out,HP.out⟩,.inl HX.out⟩
   ·exact below_drewN (HbW.out.trans (Hbr.out.mono HbW.out.size)) _
  | some y=>
   obtain ⟨⟨f',t',bt',⟨lt',lp'⟩,⟨ht',hp'⟩⟩,id'⟩:=y
   have hin:wr.cell? ⟨b,p*9+8,none⟩=some (.bool true):=hslot 8 _ rfl
   have c0:wr.cell? ⟨b,p*9,none⟩=some (.int .u8 f'):=hslot 0 _ rfl
   have c1:wr.cell? ⟨b,p*9+1,none⟩=some (.int .u8 t'):=hslot 1 _ rfl
   have c2:wr.cell? ⟨b,p*9+2,none⟩=some (.int .u8 bt'):=hslot 2 _ rfl
   have c3:wr.cell? ⟨b,p*9+3,none⟩=some (.int .u8 lt'):=hslot 3 _ rfl
   have c4:wr.cell? ⟨b,p*9+4,none⟩=some (.int .u32 lp'):=hslot 4 _ rfl
   have c5:wr.cell? ⟨b,p*9+5,none⟩=some (.int .u8 ht'):=hslot 5 _ rfl
   have c6:wr.cell? ⟨b,p*9+6,none⟩=some (.int .u32 hp'):=hslot 6 _ rfl
   have k0:=hkey 0
   have k1:=hkey 1
   have k2:=hkey 2
   have k3:=hkey 3
   have k4:=hkey 4
   have k5:=hkey 5
   have k6:=hkey 6
   clear hslot hkey
   by_cases heq:(⟨f',t',bt',⟨lt',lp'⟩,⟨ht',hp'⟩⟩:Rec)=⟨f,t,bt,⟨lt,lp⟩,⟨ht,hp⟩⟩
   ·have hneq:=fun W=>neq_rec ⟨f',t',bt',⟨lt',lp'⟩,⟨ht',hp'⟩⟩ ⟨f,t,bt,⟨lt,lp⟩,⟨ht,hp⟩⟩ W false (by rw [heq,bne_self_eq_false])
    simp only [Rec.cells] at hneq
    have HEQ:=Lib.hid heq
    clear heq
    go_wp2_with fail
    go_quiet (fail)
    go_wp2_with fail
    go_ret
    refine ⟨⟨p,rfl,?_⟩,?_⟩
    ·refine ⟨by rw [HL.out];exact hpn,⟨d,by rw [HL.out];exact HPP.out,HP.out⟩,.inr ⟨id',by unfold At;rw [HX.out,HEQ.out]⟩⟩
    ·exact below_drewN (HbW.out.trans (Hbr.out.mono HbW.out.size)) _
   ·have hneq:=fun W=>neq_rec ⟨f',t',bt',⟨lt',lp'⟩,⟨ht',hp'⟩⟩ ⟨f,t,bt,⟨lt,lp⟩,⟨ht,hp⟩⟩ W true (by rw [bne_iff_ne];exact heq)
    simp only [Rec.cells] at hneq
    have HEQ:=Lib.hid heq
    clear heq
    go_wp2_with fail
    go_quiet (fail)
    go_wp2_with fail
    refine (next_any _ g n c p _ _ (HBW.out.on' (below_drewN Hbr.out _)) hn hpn).mono ?_
    rintro e w' ⟨rfl,rfl⟩
    go_wp2_with fail
    go_roundg (n-(d+1))
    case measure=>omega
    case rel=>
     refine ⟨below_drewN Hbr.out _,d+1,by omega,rfl,HP.out.succ hsh (k':=⟨f',t',bt',⟨lt',lp'⟩,⟨ht',hp'⟩⟩) (id:=id') ?_ HEQ.out,?_⟩
     ·unfold At
      rw [HL.out,←HX.out]
      exact congrArg _ HPP.out.symm
     ·rw [HPP.out,plc_next]
end
section
open Go.RowKit
theorem info_slot:(Tryz.prog.info? 201).map (fun i=>(i.zero,i.size,i.bytes))=some (some (.agg (slotEnc none).toArray),9,28):=by kernel_rfl
theorem slot_size:(Tryz.prog.info? 201).map (·.size)=some 9:=by kernel_rfl
theorem wpL_gen {P:Program} {ops:Array Oper} {l:List Oper} {Q:Exit→Act→World→Prop} {a:Act} {w:World} (R:World→Prop) (h:R w) (k:∀W,R W→wpList P ops Q l a W):wpList P ops Q l a w:=k w h
def GrowRel (w:World) (g b0 n k:Nat) (old:List (Option (Rec×Nat))) (j:Nat) (wr:World):Prop:=
 ∃b' c' new,Blk wr g 128 #[.slice (some ⟨b',0,none⟩) (2*n) c',.int .i64 (k:Nat)]∧OwnS 9 slotEnc 201 wr w.heap.size (.slice (some ⟨b',0,none⟩) (2*n) c') new∧new.length=2*n∧
  Moved hsh old new j∧Chg [g] w wr
theorem keep9 {W w:World} {b p:Nat} {v0 v1 v2 v3 v4 v5 v6 v7 v8:Value} (h:Below W.heap.size W w) {b':Nat} (hb:b'=b):Chg [b] W (((((((((w.setCell ⟨b',p,none⟩ v0).setCell ⟨b',p+1,none⟩ v1).setCell ⟨b',p+2,none⟩ v2).setCell ⟨b',p+3,none⟩ v3).setCell ⟨b',p+4,none⟩ v4).setCell ⟨b',p+5,none⟩ v5).setCell ⟨b',p+6,none⟩ v6).setCell ⟨b',p+7,none⟩ v7).setCell ⟨b',p+8,none⟩ v8):=by
 subst hb
 have hm:b'∈[b']:=by simp
 exact (((((((((chg_of_below h).setCell (.inl hm) _).setCell (.inl hm) _).setCell (.inl hm) _).setCell (.inl hm) _).setCell (.inl hm) _).setCell (.inl hm) _).setCell (.inl hm) _).setCell (.inl hm) _).setCell (.inl hm) _
theorem set9_eq (w:World) (b p:Nat) (v0 v1 v2 v3 v4 v5 v6 v7 v8:Value):(((((((((w.setCell ⟨b,p,none⟩ v0).setCell ⟨b,p+1,none⟩ v1).setCell ⟨b,p+2,none⟩ v2).setCell ⟨b,p+3,none⟩ v3).setCell ⟨b,p+4,none⟩ v4).setCell ⟨b,p+5,none⟩ v5).setCell ⟨b,p+6,none⟩ v6).setCell ⟨b,p+7,none⟩ v7).setCell ⟨b,p+8,none⟩ v8)=w.setCells b p [v0,v1,v2,v3,v4,v5,v6,v7,v8]:=rfl
set_option maxRecDepth 100000 in
set_option maxHeartbeats 4000000 in
theorem grow_any (F:List Nat) (g k:Nat) (sl:List (Option (Rec×Nat))) (w:World) (hS:SlotsAt w F g sl k) (hn:Hid (∃ q,q≤39∧sl.length=2^q)) (h20:sl.length≤4194304) (ht:Tab hsh sl) (hok:SlotsOk sl) :
  Calls Tryz.prog 139 #[.pointer (some ⟨g,0,none⟩)] w fun e w'=>e = .returned (.tuple #[])∧GrowRel w g 0 sl.length k sl sl.length w':=by
 obtain ⟨A,n,c,hB,hO,hln,rfl,hnd⟩:=hS
 have hpos:0<sl.length:=by obtain ⟨q,hq,h⟩:=hn.out;rw [h];exact Nat.two_pow_pos q
 obtain ⟨b,c0,hv,_,hbl,hcl⟩:=OwnS.head hO hpos
 injection hv with e1 e2 e3
 subst e1
 subst e3
 rw [hln] at hn e2 h20 hpos ⊢
 clear e2
 have hlt:=hB.lt
 have hb:b≠g:=by
  rintro rfl
  simp [blk,Value.ownBlock] at hnd
 have hc0:w.cell? ⟨g,0,none⟩=some (.slice (some ⟨b,0,none⟩) n c):=hB.cell 0
 have hf0:w.frozen? ⟨g,0,none⟩=false:=hB.frozen 0
 have HB:=Lib.hid hB
 have HO:=Lib.hid hO
 have HL:=Lib.hid hln
 have HTb:=Lib.hid ht
 have HOK:=Lib.hid hok
 obtain ⟨i0,hi,hz0,hz1,hz2⟩:=info_parts info_slot
 have hN2:Hid (∃ q,q≤40∧2*n=2^q):=Lib.hid (by obtain ⟨q,hq,h⟩:=hn.out;exact ⟨q+1,by omega,by rw [h,Nat.pow_succ];omega⟩)
 clear hB hO hln hnd ht hok
 have e5:IntKind.i64.wrap (2*(n:Int))=2*(n:Int):=IntWalk.i64_in _ (by omega)
 go_enter Tryz.func139,Tryz.ntmps139
 have H1:Hid (28*(2*n)≤281474976710656):=Lib.hid (by omega)
 have H2:Hid (2*n≤maxLen):=Lib.hid (by unfold maxLen;omega)
 go_wp2_with (refine wp_makeS (α:=Option (Rec×Nat)) slotEnc_len (by decide) none Tryz.underlying126 hi hz0 hz1 hz2 rfl _ rfl (.tmp 12) (.tmp 12) rfl (2*(n:Int)) (2*(n:Int)) (2*n) rfl rfl (by simp) (by simp) H1.out H2.out ?_;intro w1 hown1 hbel1 hlt1;have HO1:=Lib.hid hown1;have HB1:=Lib.hid hbel1;clear hown1 hbel1;have hcg1:w1.cell? ⟨g,0,none⟩=_:=(HB1.out.cell (p:=⟨g,0,none⟩) hlt).trans hc0;have hfg1:w1.frozen? ⟨g,0,none⟩=false:=(HB1.out.frozen (p:=⟨g,0,none⟩) hlt).trans hf0)
 have hOold:∀W,Chg [g] w W→OwnS 9 slotEnc 201 W 0 (.slice (some ⟨b,0,none⟩) n c) sl:=fun W hW=>HO.out.chg hW (fun x hx hm=>by simp [mem_blk,Value.ownBlock] at hx hm;omega)
 have HOLD:=Lib.hid hOold
 clear hOold hcg1 hfg1 hc0 hf0
 go_loopw [18] (fun s18 wr=>∃j:Nat,j≤n∧s18 = .int .i64 j∧GrowRel w g 0 n k sl j wr) (fun s18 _=>n-(intOf s18).toNat)
 case atStart=>
  refine ⟨0,Nat.zero_le _,rfl,_,_,_,((HB.out.on' HB1.out).set_ 0 _),?_,by simp,Moved.zero hsh sl (2*n),(chg_of_below HB1.out).setCell (.inl (by simp)) _⟩
  have:=HO1.out.chg (F:=[g]) ((Chg.refl [g] w1).setCell (p:=⟨g,0,none⟩) (.inl (by simp)) (.slice (some ⟨w.heap.size,0,none⟩) (2*n) (2*n))) (fun x hx hm=>by simp [mem_blk,Value.ownBlock] at hx hm;omega)
  exact this
 case round=>
  obtain ⟨j,hj,rfl,hgr⟩:=hrel
  have hgr0:=hgr
  obtain ⟨b',c',new,hB',hO',hl',hM,hch⟩:=hgr
  have hszr:=hch.size
  have hblr:b<wr.heap.size:=by omega
  have HG0:=Lib.hid hgr0
  by_cases hjn:j<n
  ·obtain ⟨x,hx⟩:∃x,sl[j]? =some x:=⟨_,List.getElem?_eq_getElem (by rw [HL.out];exact hjn)⟩
   have hat:=(OwnS.at_ slotEnc_len (HOLD.out _ hch) j x hx).1
   have HX:=Lib.hid hx
   cases x with
   | none=>
    have c0:wr.cell? ⟨b,j*9,none⟩=some (.int .u8 0):=hat 0 _ rfl
    have c1:wr.cell? ⟨b,j*9+1,none⟩=some (.int .u8 0):=hat 1 _ rfl
    have c2:wr.cell? ⟨b,j*9+2,none⟩=some (.int .u8 0):=hat 2 _ rfl
    have c3:wr.cell? ⟨b,j*9+3,none⟩=some (.int .u8 0):=hat 3 _ rfl
    have c4:wr.cell? ⟨b,j*9+4,none⟩=some (.int .u32 0):=hat 4 _ rfl
    have c5:wr.cell? ⟨b,j*9+5,none⟩=some (.int .u8 0):=hat 5 _ rfl
    have c6:wr.cell? ⟨b,j*9+6,none⟩=some (.int .u32 0):=hat 6 _ rfl
    have c7:wr.cell? ⟨b,j*9+7,none⟩=some (.int .u32 0):=hat 7 _ rfl
    have c8:wr.cell? ⟨b,j*9+8,none⟩=some (.bool false):=hat 8 _ rfl
    have HR:=Lib.hid (show GrowRel w g 0 n k sl j wr from hgr0)
    clear hat hx hgr0 hB' hO' hl' hM hch
    go_wp2_with fail
    go_roundw
    case rel=>
     obtain ⟨b',c',new,hB',hO',hl',hM,hch⟩:=HR.out
     exact ⟨j+1,by omega,by go_num,b',c',new,hB'.alloc _,hO'.alloc _,hl',hM.skip hsh HX.out,hch.alloc _⟩
    case measure=>simp [intOf];omega
   | some y=>
    obtain ⟨⟨f,t,bt,⟨lt,lp⟩,⟨ht,hp⟩⟩,id⟩:=y
    have c0:wr.cell? ⟨b,j*9,none⟩=some (.int .u8 f):=hat 0 _ rfl
    have c1:wr.cell? ⟨b,j*9+1,none⟩=some (.int .u8 t):=hat 1 _ rfl
    have c2:wr.cell? ⟨b,j*9+2,none⟩=some (.int .u8 bt):=hat 2 _ rfl
    have c3:wr.cell? ⟨b,j*9+3,none⟩=some (.int .u8 lt):=hat 3 _ rfl
    have c4:wr.cell? ⟨b,j*9+4,none⟩=some (.int .u32 lp):=hat 4 _ rfl
    have c5:wr.cell? ⟨b,j*9+5,none⟩=some (.int .u8 ht):=hat 5 _ rfl
    have c6:wr.cell? ⟨b,j*9+6,none⟩=some (.int .u32 hp):=hat 6 _ rfl
    have c7:wr.cell? ⟨b,j*9+7,none⟩=some (.int .u32 id):=hat 7 _ rfl
    have c8:wr.cell? ⟨b,j*9+8,none⟩=some (.bool true):=hat 8 _ rfl
    clear hat hx hgr0 hB' hO' hl' hM hch
    go_wp2_with fail
    refine wp_gen (fun W=>(∃ b' c' new,b'<wr.heap.size∧Blk W g 128 #[.slice (some ⟨b',0,none⟩) (2*n) c',.int .i64 (k:Nat)]∧OwnS 9 slotEnc 201 W w.heap.size (.slice (some ⟨b',0,none⟩) (2*n) c') new∧new.length=2*n∧Moved hsh sl new j∧Chg [g] w W)∧Blk W wr.heap.size 201 #[.int .u8 f,.int .u8 t,.int .u8 bt,.int .u8 lt,.int .u32 lp,.int .u8 ht,.int .u32 hp,.int .u32 id,.bool true]) ⟨?_,Blk.new_at rfl _ _⟩ ?_
    ·obtain ⟨b',c',new,hB',hO',hl',hM,hch⟩:=HG0.out
     exact ⟨b',c',new,hO'.blk_lt b' (by simp [mem_blk,Value.ownBlock]),hB'.alloc _,hO'.alloc _,hl',hM,hch.alloc _⟩
    rintro W ⟨⟨b2,c2',new2,hb2r,hB2,hO2,hl2,hM2,hch2⟩,hK⟩
    have hHW:=hK.lt
    have hgW:=hB2.lt
    have HB2:=Lib.hid hB2
    have HO2:=Lib.hid hO2
    have HL2:=Lib.hid hl2
    have HM2:=Lib.hid hM2
    have HCH2:=Lib.hid hch2
    have HKK:=Lib.hid hK
    have hb2W:b2<W.heap.size:=hO2.blk_lt b2 (by simp [mem_blk,Value.ownBlock])
    have hb2g:b2≠g:=by
     have:=hO2.blk_ge b2 (by simp [mem_blk,Value.ownBlock])
     omega
    have HRW:Hid (Rec.Wf ⟨f,t,bt,⟨lt,lp⟩,⟨ht,hp⟩⟩):=Lib.hid (HOK.out j _ id HX.out).1
    have HAT:Hid (At sl j ⟨f,t,bt,⟨lt,lp⟩,⟨ht,hp⟩⟩ id):=HX
    have HCN:Hid (cnt new2<new2.length):=Lib.hid (by
     have h1:=hM2.cnt
     have h2:=cnt_take_le sl j
     have h3:cnt sl≤sl.length:=List.countP_le_length
     have h4:=HL.out
     omega)
    have hKb:¬wr.heap.size∈[b2]:=by simp;omega
    have FACTS:Hid (∀ W',Chg [b2] W W'→W'.cell? ⟨g,0,none⟩=some (.slice (some ⟨b2,0,none⟩) (2*n) c2')∧W'.cell? ⟨wr.heap.size,0,none⟩=some (.int .u8 f)∧W'.cell? ⟨wr.heap.size,1,none⟩=some (.int .u8 t)∧W'.cell? ⟨wr.heap.size,2,none⟩=some (.int .u8 bt)∧W'.cell? ⟨wr.heap.size,3,none⟩=some (.int .u8 lt)∧W'.cell? ⟨wr.heap.size,4,none⟩=some (.int .u32 lp)∧W'.cell? ⟨wr.heap.size,5,none⟩=some (.int .u8 ht)∧W'.cell? ⟨wr.heap.size,6,none⟩=some (.int .u32 hp)∧W'.cell? ⟨wr.heap.size,7,none⟩=some (.int .u32 id)∧W'.cell? ⟨wr.heap.size,8,none⟩=some (.bool true)):=Lib.hid fun W' hW'=>
     ⟨(hW'.cell (p:=⟨g,0,none⟩) hgW (by simp;omega)).trans (hB2.cell 0),(hW'.cell (p:=⟨wr.heap.size,0,none⟩) hHW hKb).trans (hK.cell 0),(hW'.cell (p:=⟨wr.heap.size,1,none⟩) hHW hKb).trans (hK.cell 1),(hW'.cell (p:=⟨wr.heap.size,2,none⟩) hHW hKb).trans (hK.cell 2),(hW'.cell (p:=⟨wr.heap.size,3,none⟩) hHW hKb).trans (hK.cell 3),(hW'.cell (p:=⟨wr.heap.size,4,none⟩) hHW hKb).trans (hK.cell 4),(hW'.cell (p:=⟨wr.heap.size,5,none⟩) hHW hKb).trans (hK.cell 5),(hW'.cell (p:=⟨wr.heap.size,6,none⟩) hHW hKb).trans (hK.cell 6),(hW'.cell (p:=⟨wr.heap.size,7,none⟩) hHW hKb).trans (hK.cell 7),(hW'.cell (p:=⟨wr.heap.size,8,none⟩) hHW hKb).trans (hK.cell 8)⟩
    have SLOTS:Hid (∀ W',Below W.heap.size W W'→SlotsAt W' [g,b2] g new2 k):=Lib.hid fun W' hW'=>
     ⟨_,2*n,c2',hB2.on' hW',(hO2.chg (F:=[]) (chg_of_below hW') (by simp)).mono (Nat.zero_le _),hl2,by simp [blk,Value.ownBlock],by simp;exact fun e=>hb2g e.symm⟩
    have SPOT:Hid (∀ p,Stops hsh new2 ⟨f,t,bt,⟨lt,lp⟩,⟨ht,hp⟩⟩ p→∀W',Below W.heap.size W W'→W'.cell? ⟨b2,p*9,none⟩=some (.int .u8 0)∧W'.cell? ⟨b2,p*9+1,none⟩=some (.int .u8 0)∧W'.cell? ⟨b2,p*9+2,none⟩=some (.int .u8 0)∧W'.cell? ⟨b2,p*9+3,none⟩=some (.int .u8 0)∧W'.cell? ⟨b2,p*9+4,none⟩=some (.int .u32 0)∧W'.cell? ⟨b2,p*9+5,none⟩=some (.int .u8 0)∧W'.cell? ⟨b2,p*9+6,none⟩=some (.int .u32 0)∧W'.cell? ⟨b2,p*9+7,none⟩=some (.int .u32 0)∧W'.cell? ⟨b2,p*9+8,none⟩=some (.bool false)∧∀i,i<9→W'.frozen? ⟨b2,p*9+i,none⟩=false):=Lib.hid fun p hst W' hW'=>by
     have hn:=hM2.none_ hsh HTb.out HX.out hst
     have h1:=(OwnS.at_ slotEnc_len (hO2.chg (F:=[]) (chg_of_below hW') (by simp)) p _ hn)
     refine ⟨h1.1 0 _ rfl,h1.1 1 _ rfl,h1.1 2 _ rfl,h1.1 3 _ rfl,h1.1 4 _ rfl,h1.1 5 _ rfl,h1.1 6 _ rfl,h1.1 7 _ rfl,h1.1 8 _ rfl,fun i hi=>(h1.2 i hi).2⟩
    clear hB2 hO2 hl2 hM2 hch2 hK c0 c1 c2 c3 c4 c5 c6 c7 c8
    have hk0:=FACTS.out _ (Chg.refl _ _)
    have HN3:Hid (∃ q,q≤40∧new2.length=2^q):=Lib.hid (by rw [HL2.out];exact hN2.out)
    have HFND:=find_any [g,b2] g k new2 ⟨f,t,bt,⟨lt,lp⟩,⟨ht,hp⟩⟩ W.drew (SLOTS.out W.drew (Below.refl _ _).drew) HN3 HCN.out HRW.out
    have HFN:=Lib.hid HFND
    clear HFND
    go_region_held3 (fun w'=>w'.cell? ⟨g,0,none⟩=some (.slice (some ⟨b2,0,none⟩) (2*n) c2')∧w'.cell? ⟨wr.heap.size,0,none⟩=some (.int .u8 f)∧w'.cell? ⟨wr.heap.size,1,none⟩=some (.int .u8 t)∧w'.cell? ⟨wr.heap.size,2,none⟩=some (.int .u8 bt)∧w'.cell? ⟨wr.heap.size,3,none⟩=some (.int .u8 lt)∧w'.cell? ⟨wr.heap.size,4,none⟩=some (.int .u32 lp)∧w'.cell? ⟨wr.heap.size,5,none⟩=some (.int .u8 ht)∧w'.cell? ⟨wr.heap.size,6,none⟩=some (.int .u32 hp)∧w'.cell? ⟨wr.heap.size,7,none⟩=some (.int .u32 id)∧w'.cell? ⟨wr.heap.size,8,none⟩=some (.bool true)) ((refine FACTS.out _ ?_;first |(with_reducible exact Chg.refl _ _)|(with_reducible exact (Chg.refl _ _).drew)|(with_reducible exact chg_of_below hbel6)|exact keep9 hbel6 rfl)) (first|(go_at_call 111;refine HFN.out.mono ?_;rintro e w6 ⟨⟨p,rfl,hst⟩,hb6⟩;have hbel6:Below W.heap.size W w6:=(Below.refl _ _).drew.trans hb6;have HST:=Lib.hid hst;clear hst hb6;have hpn:=HST.out.1;rw [HL2.out] at hpn;have hp1:(p:Int)<2*(n:Int):=(by omega);obtain ⟨d0,d1,d2,d3,d4,d5,d6,d7,d8,df⟩:=(SPOT.out p HST.out) w6 hbel6;have z0:w6.frozen? ⟨b2,p*9,none⟩=false:=(df 0 (by decide));have z1:=df 1 (by decide);have z2:=df 2 (by decide);have z3:=df 3 (by decide);have z4:=df 4 (by decide);have z5:=df 5 (by decide);have z6:=df 6 (by decide);have z7:=df 7 (by decide);have z8:=df 8 (by decide);clear df))
    have hKEEP:=keep9 (b:=b2) (p:=p*9) (v0:= .int .u8 f) (v1:= .int .u8 t) (v2:= .int .u8 bt) (v3:= .int .u8 lt) (v4:= .int .u32 lp) (v5:= .int .u8 ht) (v6:= .int .u32 hp) (v7:= .int .u32 id) (v8:= .bool true) hbel6 rfl
    have hEQ:=set9_eq w6 b2 (p*9) (.int .u8 f) (.int .u8 t) (.int .u8 bt) (.int .u8 lt) (.int .u32 lp) (.int .u8 ht) (.int .u32 hp) (.int .u32 id) (.bool true)
    have hNEW:GrowRel w g 0 n k sl (j+1) (w6.setCells b2 (p*9) [.int .u8 f,.int .u8 t,.int .u8 bt,.int .u8 lt,.int .u32 lp,.int .u8 ht,.int .u32 hp,.int .u32 id,.bool true]):=by
     rw [hEQ] at hKEEP
     have hO6:=HO2.out.chg (F:=[]) (chg_of_below hbel6) (by simp)
     have hge:=HO2.out.blk_ge b2 (by simp [mem_blk,Value.ownBlock])
     exact ⟨b2,c2',new2.set p (some (⟨f,t,bt,⟨lt,lp⟩,⟨ht,hp⟩⟩,id)),HB2.out.chg hKEEP (by simp;omega),OwnS.set_ slotEnc_len hO6 p HST.out.1 (some (⟨f,t,bt,⟨lt,lp⟩,⟨ht,hp⟩⟩,id)),by rw [List.length_set];exact HL2.out,HM2.out.put hsh HTb.out HAT.out HST.out,HCH2.out.trans hKEEP (fun x hx=> .inr (by simp at hx;omega))⟩
    rw [← hEQ] at hNEW
    have HNEW:=Lib.hid hNEW
    clear hNEW hEQ hKEEP d0 d1 d2 d3 d4 d5 d6 d7 d8 z0 z1 z2 z3 z4 z5 z6 z7 z8 hk0
    go_wp2_with fail
    go_roundw
    case rel=>exact ⟨j+1,by omega,by go_num,HNEW.out⟩
    case measure=>simp [intOf];omega
  ·have hjn':j=n:=by omega
   have HR:=Lib.hid (show GrowRel w g 0 n k sl n wr from hjn'▸hgr0)
   clear hgr0 hB' hO' hl' hM hch hjn'
   go_wp2_with fail
   go_end0
   exact ⟨rfl,HR.out⟩
end
section
open Go.RowKit
def IdxAt (w:World) (F:List Nat) (g:Nat) (m:Rec→Option Nat) (k:Nat):Prop:=
 ∃sl,SlotsAt w F g sl k∧(∃ q,3≤q∧q≤22∧sl.length=2^q)∧Tab hsh sl∧cnt sl=k∧2*k≤sl.length∧SlotsOk sl∧∀r id,m r=some id↔Look sl r id
theorem IdxAt.chg {w w':World} {F G:List Nat} {g k:Nat} {m:Rec→Option Nat} (h:IdxAt w F g m k) (hb:Chg G w w') (hd:∀k∈F,¬k∈G):IdxAt w' F g m k:=by
 obtain ⟨sl,h1,h2⟩:=h
 exact ⟨sl,h1.chg hb hd,h2⟩
theorem IdxAt.lt {w:World} {F:List Nat} {g k:Nat} {m:Rec→Option Nat} (h:IdxAt w F g m k):∀k∈F,k<w.heap.size:=by
 obtain ⟨sl,h1,h2⟩:=h
 exact h1.lt
theorem IdxAt.on {w w':World} {F:List Nat} {g k:Nat} {m:Rec→Option Nat} (h:IdxAt w F g m k) (hb:Below w.heap.size w w'):IdxAt w' F g m k:=h.chg (G:=[]) (chg_of_below hb) (fun _ _ h=>by cases h)
def upd (m:Rec→Option Nat) (r:Rec) (id:Nat):Rec→Option Nat:=fun r'=>if r'=r then some id else m r'
theorem SlotsOk.set_ {sl:List (Option (Rec×Nat))} (h:SlotsOk sl) {r:Rec} {id p:Nat} (hr:r.Wf) (hid:id≤4294967295) (hp:p<sl.length):SlotsOk (sl.set p (some (r,id))):=fun i k id' ha=>by
 rcases ha.of_set hp with ⟨_,rfl,rfl⟩|⟨_,ha⟩
 ·exact ⟨hr,hid⟩
 ·exact h i k id' ha
theorem idx_grown {w w':World} {g k:Nat} {m:Rec→Option Nat} {sl:List (Option (Rec×Nat))} (h:GrowRel w g 0 sl.length k sl sl.length w') (hq:∃q,3≤q∧q≤21∧sl.length=2^q) (hk:cnt sl=k) (hk2:k≤sl.length) (hok:SlotsOk sl) (hm:∀r id,m r=some id↔Look sl r id) (hg:g<w.heap.size) :
  ∃F',IdxAt w' F' g m k∧(∀ x∈F',x=g∨w.heap.size≤x):=by
 obtain ⟨b',c',new,hB,hO,hl,hM,hch⟩:=h
 have hge:=hO.blk_ge b' (by simp [mem_blk,Value.ownBlock])
 refine ⟨[g,b'],⟨new,⟨_,2*sl.length,c',hB,hO.mono (Nat.zero_le _),hl,by simp [blk,Value.ownBlock],by simp;omega⟩,?_,hM.tab,?_,by omega,?_,fun r id=>?_⟩,by simp;exact .inr hge⟩
 ·obtain ⟨q,h3,h21,hq⟩:=hq
  exact ⟨q+1,by omega,by omega,by rw [hl,hq,Nat.pow_succ];omega⟩
 ·rw [hM.cnt,List.take_length,hk]
 ·intro i r id ha
  obtain ⟨i',_,ha'⟩:=(hM.look r id).1 ⟨i,ha⟩
  exact hok i' r id ha'
 ·rw [hm,hM.all]
set_option maxRecDepth 100000 in
set_option maxHeartbeats 4000000 in
theorem idxPut_new (F:List Nat) (g k:Nat) (m:Rec→Option Nat) (r:Rec) (id:Nat) (w:World) (h:IdxAt w F g m k) (hm:m r=none) (hr:r.Wf) (hid:id≤4294967295) (hk:k+1≤1048576) :
  Calls Tryz.prog 132 #[.pointer (some ⟨g,0,none⟩),.agg r.cells.toArray,.int .u32 id] w fun e w'=>e = .returned (.tuple #[.int .u32 0,.bool false])∧Turns (fun W X=>IdxAt W X g (upd m r id) (k+1)) F w w':=by
 obtain ⟨sl,hS,hq,ht,hcn,h2k,hok,hlook⟩:=h
 have hS0:=hS
 obtain ⟨A,n,c,hB,hO,hln,rfl,hnd⟩:=hS
 have hpos:0<sl.length:=by obtain ⟨q,hq,_,h⟩:=hq;rw [h];exact Nat.two_pow_pos q
 obtain ⟨b,c0,hv,_,hblt,hcl⟩:=OwnS.head hO hpos
 injection hv with e1 e2 e3
 subst e1
 subst e3
 have hlt:=hB.lt
 have hbg:b≠g:=by
  rintro rfl
  simp [blk,Value.ownBlock] at hnd
 have hn22:n≤4194304:=by
  obtain ⟨q,_,h22,h⟩:=hq
  have:2^q≤2^22:=Nat.pow_le_pow_right (by omega) h22
  omega
 have hn8:8≤n:=by
  obtain ⟨q,h3,_,h⟩:=hq
  have:2^3≤2^q:=Nat.pow_le_pow_right (by omega) h3
  omega
 have HN40:Hid (∃ q,q≤40∧sl.length=2^q):=Lib.hid (by obtain ⟨q,_,h22,h⟩:=hq;exact ⟨q,by omega,h⟩)
 have HCN:Hid (cnt sl<sl.length):=Lib.hid (by omega)
 have hne:¬g=w.heap.size:=by omega
 have hbne:¬b=w.heap.size:=by omega
 have HS0:=Lib.hid hS0
 have HB:=Lib.hid hB
 have HO:=Lib.hid hO
 have HL:=Lib.hid hln
 have HQ:=Lib.hid hq
 have HTab:=Lib.hid ht
 have HC:=Lib.hid hcn
 have H2K:Hid (2*k≤n):=Lib.hid (by omega)
 have HOK:=Lib.hid hok
 have HLK:=Lib.hid hlook
 have HM:=Lib.hid hm
 have HR:=Lib.hid hr
 obtain ⟨f,t,bt,⟨lt,lp⟩,⟨ht',hp'⟩⟩:=r
 simp only [Rec.cells]
 clear hS0 hB hO hln hq ht hcn h2k hok hlook hm hr e2 hnd hpos hcl
 go_enter Tryz.func132,Tryz.ntmps132
 go_wp2_with fail
 refine (find_any _ g k sl ⟨f,t,bt,⟨lt,lp⟩,⟨ht',hp'⟩⟩ _ (HS0.out.on ((Below.refl _ _).alloc (Nat.le_refl _) _)) HN40 HCN.out HR.out).mono ?_
 rintro e w1 ⟨⟨p,rfl,hst⟩,hb1⟩
 have HST:=Lib.hid hst
 have hpn:p<n:=by have:=hst.1;rw [HL.out] at this;exact this
 have hnone:sl[p]? =some none:=by
  rcases hst.2.2 with h1|⟨id2,h1⟩
  ·exact h1
  ·have:=(HLK.out _ id2).2 ⟨p,h1⟩
   rw [HM.out] at this
   cases this
 have HNO:=Lib.hid hnone
 have hbW:Below w.heap.size w w1:=((Below.refl _ _).alloc (Nat.le_refl _) _).trans (hb1.mono (by simp))
 have hK:Blk w1 w.heap.size 82 #[.int .u8 f,.int .u8 t,.int .u8 bt,.int .u8 lt,.int .u32 lp,.int .u8 ht',.int .u32 hp']:=(Blk.new w _ _).on' hb1
 have hBW:=HB.out.on' hbW
 have hOW:=HO.out.chg (F:=[]) (chg_of_below hbW) (by simp)
 have hat:=OwnS.at_ slotEnc_len hOW p none hnone
 have hTW:w1.there b (p*9) 9:=hat.2
 have hxW:w1.cell? ⟨b,p*9+8,none⟩=some (.bool false):=hat.1 8 _ rfl
 have hcg0:w1.cell? ⟨g,0,none⟩=some (.slice (some ⟨b,0,none⟩) n c):=hBW.cell 0
 have hcg1:w1.cell? ⟨g,1,none⟩=some (.int .i64 (k:Nat)):=hBW.cell 1
 have k0:=hK.cell 0
 have k1:=hK.cell 1
 have k2:=hK.cell 2
 have k3:=hK.cell 3
 have k4:=hK.cell 4
 have k5:=hK.cell 5
 have k6:=hK.cell 6
 have HBW:=Lib.hid hBW
 have HOW:=Lib.hid hOW
 have HTW:=Lib.hid hTW
 have HbW:=Lib.hid hbW
 clear hBW hTW hbW hb1 hK hst hnone hOW hat
 go_wp2_with fail
 go_still_tail 9,(by kernel_rfl)
 refine wpList_store_mid rfl 201 (.tmp 48) (.tmp 47) rfl b (p*9) #[.int .u8 f,.int .u8 t,.int .u8 bt,.int .u8 lt,.int .u32 lp,.int .u8 ht',.int .u32 hp',.int .u32 id,.bool true] rfl rfl HTW.out slot_size (all_oneCell_toArray (slotEnc_one (some (⟨f,t,bt,⟨lt,lp⟩,⟨ht',hp'⟩⟩,id)))) ?_
 refine wpL_gen (fun W=>Chg [g,b] w W∧Blk W g 128 #[.slice (some ⟨b,0,none⟩) n c,.int .i64 (k:Nat)]∧OwnS 9 slotEnc 201 W 0 (.slice (some ⟨b,0,none⟩) n c) (sl.set p (some (⟨f,t,bt,⟨lt,lp⟩,⟨ht',hp'⟩⟩,id)))) ⟨?_,?_,?_⟩ ?_
 ·exact ((chg_of_below HbW.out).drew).setCells (.inl (by simp)) _ _
 ·exact (setCells_other (fun e=>hbg e.symm) _ _ _).trans HBW.out
 ·exact OwnS.set_ slotEnc_len HOW.out p (by rw [HL.out];exact hpn) (some (⟨f,t,bt,⟨lt,lp⟩,⟨ht',hp'⟩⟩,id))
 rintro W ⟨hch,hB2,hO2⟩
 have hcg0':W.cell? ⟨g,0,none⟩=some (.slice (some ⟨b,0,none⟩) n c):=hB2.cell 0
 have hcg1':W.cell? ⟨g,1,none⟩=some (.int .i64 (k:Nat)):=hB2.cell 1
 have hfz:W.frozen? ⟨g,1,none⟩=false:=hB2.frozen 1
 have HCH:=Lib.hid hch
 have HB2:=Lib.hid hB2
 have HO2:=Lib.hid hO2
 have e1:IntKind.i64.wrap ((k:Int)+1)=(k:Int)+1:=IntWalk.i64_in _ (by omega)
 have e2:IntKind.i64.wrap (2*((k:Int)+1))=2*((k:Int)+1):=IntWalk.i64_in _ (by omega)
 have HPUT:=Lib.hid (HTab.out.put hsh HST.out id)
 have HLP:=Lib.hid (fun r2 id2=>Stops.look_put hsh HTab.out HST.out id r2 id2)
 have HCP:=Lib.hid (cnt_set_none HST.out.1 HNO.out (⟨f,t,bt,⟨lt,lp⟩,⟨ht',hp'⟩⟩,id))
 have HOK2:=Lib.hid (HOK.out.set_ (p:=p) HR.out hid (by rw [HL.out];exact hpn))
 have HUPD:Hid (∀ r2 id2,upd m ⟨f,t,bt,⟨lt,lp⟩,⟨ht',hp'⟩⟩ id r2=some id2↔Look (sl.set p (some (⟨f,t,bt,⟨lt,lp⟩,⟨ht',hp'⟩⟩,id))) r2 id2):=Lib.hid fun r2 id2=>by
  rw [HLP.out r2 id2]
  unfold upd
  split
  ·rename_i h
   constructor
   ·intro h2;injection h2 with h2;exact .inl ⟨h,h2.symm⟩
   ·rintro (⟨_,h2⟩|⟨h2,_⟩)
    ·rw [h2]
    ·exact absurd h h2
  ·rename_i h
   rw [HLK.out]
   constructor
   ·intro h2;exact .inr ⟨h,h2⟩
   ·rintro (⟨h2,_⟩|⟨_,h2⟩)
    ·exact absurd h2 h
    ·exact h2
 clear hch hB2 hO2 hcg0 hcg1 hxW k0 k1 k2 k3 k4 k5 k6
 by_cases hsm:2*(k+1)≤n
 ·have hd:decide ((n:Int)<2*((k:Int)+1))=false:=by simp;omega
  go_wp2_with fail
  go_quiet (fail)
  go_wp2_with fail
  go_ret2
  refine ⟨rfl,⟨[g,b],⟨_,⟨some ⟨b,0,none⟩,n,c,HB2.out.set_ 1 (.int .i64 (k+1)),HO2.out.chg (F:=[g]) (((Chg.refl _ _).setCell (.inl (by simp)) _).drewN _) (by simp [mem_blk,Value.ownBlock,hbg]),by rw [List.length_set];exact HL.out,by simp [blk,Value.ownBlock],by simp;exact fun e=>hbg e.symm⟩,?_,HPUT.out,by rw [HCP.out,HC.out],by rw [List.length_set,HL.out];omega,HOK2.out,HUPD.out⟩,by simp [blk,Value.ownBlock]⟩,?_⟩
  ·rw [List.length_set];exact HQ.out
  ·have h1:=(HCH.out.setCell (p:=⟨g,1,none⟩) (.inl (by simp)) (.int .i64 (k+1))).drewN nq
   refine h1.mono (fun x hx=> .inl ?_)
   simpa [blk,Value.ownBlock] using hx
 ·have hd:decide ((n:Int)<2*((k:Int)+1))=true:=by simp;omega
  go_wp2_with fail
  go_quiet (fail)
  go_wp2_with fail
  have hnew:SlotsAt ((W.setCell ⟨g,1,none⟩ (.int .i64 (k+1))).drewN nq) [g,b] g (sl.set p (some (⟨f,t,bt,⟨lt,lp⟩,⟨ht',hp'⟩⟩,id))) (k+1):=
   ⟨some ⟨b,0,none⟩,n,c,HB2.out.set_ 1 (.int .i64 (k+1)),HO2.out.chg (F:=[g]) (((Chg.refl _ _).setCell (.inl (by simp)) _).drewN _) (by simp [mem_blk,Value.ownBlock,hbg]),by rw [List.length_set];exact HL.out,by simp [blk,Value.ownBlock],by simp;exact fun e=>hbg e.symm⟩
  have HN39:Hid (∃ q,q≤39∧(sl.set p (some (⟨f,t,bt,⟨lt,lp⟩,⟨ht',hp'⟩⟩,id))).length=2^q):=Lib.hid (by rw [List.length_set];obtain ⟨q,_,h22,h⟩:=HQ.out;exact ⟨q,by omega,h⟩)
  have HQ21:Hid (∃ q,3≤q∧q≤21∧(sl.set p (some (⟨f,t,bt,⟨lt,lp⟩,⟨ht',hp'⟩⟩,id))).length=2^q):=Lib.hid (by
   rw [List.length_set]
   obtain ⟨q,h3,h22,h⟩:=HQ.out
   refine ⟨q,h3,?_,h⟩
   rcases Nat.lt_or_ge q 22 with h4|h4
   ·omega
   ·have:q=22:=by omega
    subst this
    have:=HL.out
    omega)
  have h1:=(HCH.out.setCell (p:=⟨g,1,none⟩) (.inl (by simp)) (.int .i64 (k+1))).drewN nq
  have H1:=Lib.hid h1
  have HNEW:=Lib.hid hnew
  have hg4:=grow_any [g,b] g (k+1) _ _ hnew HN39 (by rw [List.length_set,HL.out];exact hn22) HPUT.out HOK2.out
  have HG4:=Lib.hid hg4
  clear hg4 hnew h1
  refine HG4.out.mono ?_
  rintro e w4 ⟨rfl,hgr⟩
  have HGR:=Lib.hid hgr
  clear hgr
  go_wp2_with fail
  go_ret2
  obtain ⟨F',hi,hF'⟩:=idx_grown HGR.out HQ21.out (by rw [HCP.out,HC.out]) (by rw [List.length_set,HL.out];have:=H2K.out;omega) HOK2.out HUPD.out (HNEW.out.lt g (by simp))
  obtain ⟨b',c',new,hB',hO',hl',hM',hch'⟩:=HGR.out
  have hsz:=H1.out.size
  refine ⟨rfl,⟨F',hi,fun x hx=>?_⟩,?_⟩
  ·rcases hF' x hx with rfl|h
   ·exact .inl (by simp)
   ·right;omega
  ·refine (H1.out.trans hch' (fun x hx=> .inl ?_)).mono (fun x hx=> .inl ?_)
   ·simp at hx;simp [hx]
   ·simpa [blk,Value.ownBlock] using hx
end
section
open Go.RowKit
set_option maxHeartbeats 1000000 in
theorem idxNew_any (w:World) :
  Calls Tryz.prog 32 #[] w fun e w'=>(∃ g F,e = .returned (.pointer (some ⟨g,0,none⟩))∧IdxAt w' F g (fun _=>none) 0∧(∀ k∈F,w.heap.size≤k))∧Below w.heap.size w w':=by
 obtain ⟨i0,hi,hz0,hz1,hz2⟩:=info_parts info_slot
 have H1:Hid (28*8≤281474976710656):=Lib.hid (by omega)
 have H2:Hid (8≤maxLen):=Lib.hid (by unfold maxLen;omega)
 go_enter Tryz.func32,Tryz.ntmps32
 go_wp2_with (refine wp_makeS (α:=Option (Rec×Nat)) slotEnc_len (by decide) none Tryz.underlying126 hi hz0 hz1 hz2 rfl _ rfl (.const (.int .i64 8)) (.const (.int .i64 8)) rfl 8 8 8 rfl rfl (by simp) (by simp) H1.out H2.out ?_;intro w1 hown1 hbel1 hlt1;have HO1:=Lib.hid hown1;have HB1:=Lib.hid hbel1;clear hown1 hbel1)
 go_ret
 refine ⟨⟨w1.heap.size,[w1.heap.size,w.heap.size],rfl,⟨List.replicate 8 none,⟨_,8,8,Blk.new _ _ _,(HO1.out.alloc _).mono (Nat.zero_le _),rfl,by simp [blk,Value.ownBlock],by simp;omega⟩,⟨3,by omega,by omega,rfl⟩,Tab.blank hsh 8,cnt_blank 8,by simp,?_,?_⟩,by simp;omega⟩,HB1.out.alloc HB1.out.size _⟩
 ·intro i r id ha
  exact (look_blank 8 r id ⟨i,ha⟩).elim
 ·intro r id
  simp only [reduceCtorEq,false_iff]
  exact look_blank 8 r id
def getV (x:Option Nat):Value:=match x with |some id=> .tuple #[.int .u32 id,.bool true]|none=> .tuple #[.int .u32 0,.bool false]
theorem getEnd_t {x7:Int} {x8:Bool} (h:(!x8)=false):Ending.returned (.tuple #[.int .u32 x7,.bool true]) = .returned (.tuple #[.int .u32 x7,.bool x8]):=by
 have:x8=true:=by simpa using h
 rw [this]
theorem getEnd_f {x7:Int} {x8:Bool} (h:(!x8)=true) (h7:x8=false→x7=0):Ending.returned (.tuple #[.int .u32 0,.bool false]) = .returned (.tuple #[.int .u32 x7,.bool x8]):=by
 have:x8=false:=by simpa using h
 rw [this,h7 this]
theorem keepA (W:World) (o:Obj):Below W.heap.size W (W.drew.alloc o):=(Below.refl _ _).drew.alloc (Nat.le_refl _) _
theorem keepB (W:World) (o:Obj):Below W.heap.size W (W.alloc o).drew:=((Below.refl _ _).alloc (Nat.le_refl _) _).drew
theorem keepC {W w:World} {o:Obj} (h:Below W.heap.size W w):Below W.heap.size W (w.alloc o):=h.alloc h.size _
theorem keep9' {W w:World} {v0 v1 v2 v3 v4 v5 v6 v7 v8:Value} (h:Below W.heap.size W w):Below W.heap.size W (((((((((w.setCell ⟨W.heap.size,0,none⟩ v0).setCell ⟨W.heap.size,1,none⟩ v1).setCell ⟨W.heap.size,2,none⟩ v2).setCell ⟨W.heap.size,3,none⟩ v3).setCell ⟨W.heap.size,4,none⟩ v4).setCell ⟨W.heap.size,5,none⟩ v5).setCell ⟨W.heap.size,6,none⟩ v6).setCell ⟨W.heap.size,7,none⟩ v7).setCell ⟨W.heap.size,8,none⟩ v8):=by
 have hm:W.heap.size≤W.heap.size:=Nat.le_refl _
 exact ((((((((h.setCell hm _).setCell hm _).setCell hm _).setCell hm _).setCell hm _).setCell hm _).setCell hm _).setCell hm _).setCell hm _
set_option maxRecDepth 100000 in
set_option maxHeartbeats 4000000 in
theorem idxGet_any (F:List Nat) (g k:Nat) (m:Rec→Option Nat) (r:Rec) (w:World) (h:IdxAt w F g m k) (hr:r.Wf) :
  Calls Tryz.prog 129 #[.pointer (some ⟨g,0,none⟩),.agg r.cells.toArray] w fun e w'=>e = .returned (getV (m r))∧Below w.heap.size w w':=by
 obtain ⟨sl,hS,hq,ht,hcn,h2k,hok,hlook⟩:=h
 have hS0:=hS
 obtain ⟨A,n,c,hB,hO,hln,rfl,hnd⟩:=hS
 have hpos:0<sl.length:=by obtain ⟨q,hq,_,h⟩:=hq;rw [h];exact Nat.two_pow_pos q
 obtain ⟨b,c0,hv,_,hblt,hcl⟩:=OwnS.head hO hpos
 injection hv with e1 e2 e3
 subst e1
 subst e3
 have hlt:=hB.lt
 have hn22:n≤4194304:=by
  obtain ⟨q,_,h22,h⟩:=hq
  have:2^q≤2^22:=Nat.pow_le_pow_right (by omega) h22
  omega
 have HN40:Hid (∃ q,q≤40∧sl.length=2^q):=Lib.hid (by obtain ⟨q,_,h22,h⟩:=hq;exact ⟨q,by omega,h⟩)
 have HCN:Hid (cnt sl<sl.length):=Lib.hid (by omega)
 have hne:¬g=w.heap.size:=by omega
 have hbne:¬b=w.heap.size:=by omega
 have HS0:=Lib.hid hS0
 have HB:=Lib.hid hB
 have HO:=Lib.hid hO
 have HL:=Lib.hid hln
 have HTab:=Lib.hid ht
 have HLK:=Lib.hid hlook
 have HR:=Lib.hid hr
 obtain ⟨f,t,bt,⟨lt,lp⟩,⟨ht',hp'⟩⟩:=r
 simp only [Rec.cells]
 obtain ⟨W,hW⟩:∃W,W=w.alloc (.cells #[.int .u8 f,.int .u8 t,.int .u8 bt,.int .u8 lt,.int .u32 lp,.int .u8 ht',.int .u32 hp'] 82):=⟨_,rfl⟩
 have hbW:Below w.heap.size w W:=by rw [hW];exact (Below.refl _ _).alloc (Nat.le_refl _) _
 have hK:Blk W w.heap.size 82 #[.int .u8 f,.int .u8 t,.int .u8 bt,.int .u8 lt,.int .u32 lp,.int .u8 ht',.int .u32 hp']:=by rw [hW];exact Blk.new w _ _
 have hkW:=hK.lt
 have hgW:g<W.heap.size:=by have:=hbW.size;omega
 have hb2W:b<W.heap.size:=by have:=hbW.size;omega
 have FACTS:Hid (∀ W',Below W.heap.size W W'→W'.cell? ⟨g,0,none⟩=some (.slice (some ⟨b,0,none⟩) n c)∧W'.cell? ⟨w.heap.size,0,none⟩=some (.int .u8 f)∧W'.cell? ⟨w.heap.size,1,none⟩=some (.int .u8 t)∧W'.cell? ⟨w.heap.size,2,none⟩=some (.int .u8 bt)∧W'.cell? ⟨w.heap.size,3,none⟩=some (.int .u8 lt)∧W'.cell? ⟨w.heap.size,4,none⟩=some (.int .u32 lp)∧W'.cell? ⟨w.heap.size,5,none⟩=some (.int .u8 ht')∧W'.cell? ⟨w.heap.size,6,none⟩=some (.int .u32 hp')):=Lib.hid fun W' hW'=>
  ⟨(hW'.cell (p:=⟨g,0,none⟩) hgW).trans ((hB.on' hbW).cell 0),(hW'.cell (p:=⟨w.heap.size,0,none⟩) hkW).trans (hK.cell 0),(hW'.cell (p:=⟨w.heap.size,1,none⟩) hkW).trans (hK.cell 1),(hW'.cell (p:=⟨w.heap.size,2,none⟩) hkW).trans (hK.cell 2),(hW'.cell (p:=⟨w.heap.size,3,none⟩) hkW).trans (hK.cell 3),(hW'.cell (p:=⟨w.heap.size,4,none⟩) hkW).trans (hK.cell 4),(hW'.cell (p:=⟨w.heap.size,5,none⟩) hkW).trans (hK.cell 5),(hW'.cell (p:=⟨w.heap.size,6,none⟩) hkW).trans (hK.cell 6)⟩
 have HbW:=Lib.hid hbW
 have HWW:=Lib.hid hW
 obtain ⟨p,hst⟩:=stops_ex hsh ⟨f,t,bt,⟨lt,lp⟩,⟨ht',hp'⟩⟩ HCN.out
 have hFN:∀W',Below W.heap.size W W'→Calls Tryz.prog 111 #[.pointer (some ⟨g,0,none⟩),.agg #[.int .u8 f,.int .u8 t,.int .u8 bt,.int .u8 lt,.int .u32 lp,.int .u8 ht',.int .u32 hp']] W' fun e w'=>e = .returned (.int .i64 (p:Nat))∧Below W.heap.size W w'∧Below W'.heap.size W' w':=fun W' hW'=>(find_any _ g k sl ⟨f,t,bt,⟨lt,lp⟩,⟨ht',hp'⟩⟩ W' (hS0.on (hbW.trans (hW'.mono hbW.size))) HN40 HCN.out HR.out).mono fun e w' h=>by
  obtain ⟨⟨p',h1,h2⟩,h3⟩:=h
  rw [h2.uniq hsh hst] at h1
  exact ⟨h1,hW'.trans (h3.mono hW'.size),h3⟩
 have hpn:p<n:=by have:=hst.1;omega
 have hp1:(p:Int)<(n:Int):=by omega
 have HFN:=Lib.hid hFN
 have hOW:=hO.chg (F:=[]) (chg_of_below hbW) (by simp)
 obtain ⟨x,hx⟩:∃x,sl[p]? =some x:=⟨_,List.getElem?_eq_getElem (by omega)⟩
 have SPOT:∀W',Below W.heap.size W W'→W'.rangeAt b (p*9) (slotEnc x):=fun W' hW'=>(OwnS.at_ slotEnc_len (hOW.chg (F:=[]) (chg_of_below hW') (by simp)) p x hx).1
 have hmx:getV (m ⟨f,t,bt,⟨lt,lp⟩,⟨ht',hp'⟩⟩)=getV (x.map (·.2)):=by
  cases x with
  | none=>
   cases hm:m ⟨f,t,bt,⟨lt,lp⟩,⟨ht',hp'⟩⟩ with
   | none=>rfl
   | some id=>
    have:=hst.none_look hsh ht hx id
    exact absurd ((hlook _ id).1 hm) this
  | some y=>
   obtain ⟨r',id⟩:=y
   rcases hst.2.2 with h1|⟨id2,h1⟩
   ·rw [hx] at h1;cases h1
   ·have:=At.inj h1 hx
    obtain ⟨rfl,rfl⟩:=this
    have h2:=(hlook ⟨f,t,bt,⟨lt,lp⟩,⟨ht',hp'⟩⟩ id2).2 ⟨p,h1⟩
    rw [h2]
    rfl
 have HMX:=Lib.hid hmx
 have hnw:¬b=W.heap.size:=by omega
 have hgw:¬g=W.heap.size:=by omega
 have hkw:¬w.heap.size=W.heap.size:=by omega
 obtain ⟨x0,x1,x2,x3,x4,x5,x6,x7,x8,hxe,hxv,hx7⟩:∃x0 x1 x2 x3 x4 x5 x6 x7 x8,slotEnc x=[.int .u8 x0,.int .u8 x1,.int .u8 x2,.int .u8 x3,.int .u32 x4,.int .u8 x5,.int .u32 x6,.int .u32 x7,.bool x8]∧getV (x.map (·.2)) = .tuple #[.int .u32 x7,.bool x8]∧(x8=false→x7=0):=by
  cases x with
  | none=>exact ⟨_,_,_,_,_,_,_,_,_,rfl,rfl,fun _=>rfl⟩
  | some y=>obtain ⟨⟨_,_,_,⟨_,_⟩,⟨_,_⟩⟩,_⟩:=y;exact ⟨_,_,_,_,_,_,_,_,_,rfl,rfl,fun h=>by cases h⟩
 rw [hxe] at SPOT
 have HXV:=Lib.hid hxv
 have HX7:=Lib.hid hx7
 have FACTS2:Hid (∀ W',Below W.heap.size W W'→W'.cell? ⟨g,0,none⟩=some (.slice (some ⟨b,0,none⟩) n c)∧W'.cell? ⟨w.heap.size,0,none⟩=some (.int .u8 f)∧W'.cell? ⟨w.heap.size,1,none⟩=some (.int .u8 t)∧W'.cell? ⟨w.heap.size,2,none⟩=some (.int .u8 bt)∧W'.cell? ⟨w.heap.size,3,none⟩=some (.int .u8 lt)∧W'.cell? ⟨w.heap.size,4,none⟩=some (.int .u32 lp)∧W'.cell? ⟨w.heap.size,5,none⟩=some (.int .u8 ht')∧W'.cell? ⟨w.heap.size,6,none⟩=some (.int .u32 hp')∧
   W'.cell? ⟨b,p*9,none⟩=some (.int .u8 x0)∧W'.cell? ⟨b,p*9+1,none⟩=some (.int .u8 x1)∧W'.cell? ⟨b,p*9+2,none⟩=some (.int .u8 x2)∧W'.cell? ⟨b,p*9+3,none⟩=some (.int .u8 x3)∧W'.cell? ⟨b,p*9+4,none⟩=some (.int .u32 x4)∧W'.cell? ⟨b,p*9+5,none⟩=some (.int .u8 x5)∧W'.cell? ⟨b,p*9+6,none⟩=some (.int .u32 x6)∧W'.cell? ⟨b,p*9+7,none⟩=some (.int .u32 x7)∧W'.cell? ⟨b,p*9+8,none⟩=some (.bool x8)):=Lib.hid fun W' hW'=>by
  obtain ⟨q0,q1,q2,q3,q4,q5,q6,q7⟩:=FACTS.out W' hW'
  have hr:=SPOT W' hW'
  exact ⟨q0,q1,q2,q3,q4,q5,q6,q7,hr 0 _ rfl,hr 1 _ rfl,hr 2 _ rfl,hr 3 _ rfl,hr 4 _ rfl,hr 5 _ rfl,hr 6 _ rfl,hr 7 _ rfl,hr 8 _ rfl⟩
 have NEWC:Hid (∀ w6,Below (W.drew.alloc (.cells (slotEnc none).toArray 201)).heap.size (W.drew.alloc (.cells (slotEnc none).toArray 201)) w6→Blk w6 W.heap.size 201 (slotEnc none).toArray):=Lib.hid fun w6 h=>(Blk.new W.drew _ _).on' h
 clear hS0 hB hO hln hq ht hcn h2k hok hlook hr e2 hnd hpos hcl hFN hOW hbW hK hst hx SPOT hmx hxe hxv hx7 FACTS
 go_enter Tryz.func129,Tryz.ntmps129
 go_wp2_with fail
 rw [← HWW.out]
 clear hW
 go_region_held3 (fun w'=>w'.cell? ⟨g,0,none⟩=some (.slice (some ⟨b,0,none⟩) n c)∧w'.cell? ⟨w.heap.size,0,none⟩=some (.int .u8 f)∧w'.cell? ⟨w.heap.size,1,none⟩=some (.int .u8 t)∧w'.cell? ⟨w.heap.size,2,none⟩=some (.int .u8 bt)∧w'.cell? ⟨w.heap.size,3,none⟩=some (.int .u8 lt)∧w'.cell? ⟨w.heap.size,4,none⟩=some (.int .u32 lp)∧w'.cell? ⟨w.heap.size,5,none⟩=some (.int .u8 ht')∧w'.cell? ⟨w.heap.size,6,none⟩=some (.int .u32 hp')∧w'.cell? ⟨b,p*9,none⟩=some (.int .u8 x0)∧w'.cell? ⟨b,p*9+1,none⟩=some (.int .u8 x1)∧w'.cell? ⟨b,p*9+2,none⟩=some (.int .u8 x2)∧w'.cell? ⟨b,p*9+3,none⟩=some (.int .u8 x3)∧w'.cell? ⟨b,p*9+4,none⟩=some (.int .u32 x4)∧w'.cell? ⟨b,p*9+5,none⟩=some (.int .u8 x5)∧w'.cell? ⟨b,p*9+6,none⟩=some (.int .u32 x6)∧w'.cell? ⟨b,p*9+7,none⟩=some (.int .u32 x7)∧w'.cell? ⟨b,p*9+8,none⟩=some (.bool x8)) ((refine FACTS2.out _ ?_;with_reducible (first|exact Below.refl _ _|exact (Below.refl _ _).drew|exact hbel6|exact keepA W _|exact keepB W _|exact keepC hbel6|exact keep9' hbel6|fail))) (first|(go_at_call 111;refine (HFN.out _ ?_).mono ?_;(with_reducible first |exact keepA W _|exact keepB W _);rintro e w6 ⟨rfl,hbel6,hb6⟩;have HNB:=Lib.hid (NEWC.out w6 hb6);clear hb6;have hkz:¬w.heap.size=W.heap.size:=(by omega);have n0:w6.cell? ⟨W.heap.size,0,none⟩=some (.int .u8 0):=HNB.out.cell 0;have n1:w6.cell? ⟨W.heap.size,1,none⟩=some (.int .u8 0):=HNB.out.cell 1;have n2:w6.cell? ⟨W.heap.size,2,none⟩=some (.int .u8 0):=HNB.out.cell 2;have n3:w6.cell? ⟨W.heap.size,3,none⟩=some (.int .u8 0):=HNB.out.cell 3;have n4:w6.cell? ⟨W.heap.size,4,none⟩=some (.int .u32 0):=HNB.out.cell 4;have n5:w6.cell? ⟨W.heap.size,5,none⟩=some (.int .u8 0):=HNB.out.cell 5;have n6:w6.cell? ⟨W.heap.size,6,none⟩=some (.int .u32 0):=HNB.out.cell 6;have n7:w6.cell? ⟨W.heap.size,7,none⟩=some (.int .u32 0):=HNB.out.cell 7;have n8:w6.cell? ⟨W.heap.size,8,none⟩=some (.bool false):=HNB.out.cell 8;have z0:=HNB.out.frozen 0;have z1:=HNB.out.frozen 1;have z2:=HNB.out.frozen 2;have z3:=HNB.out.frozen 3;have z4:=HNB.out.frozen 4;have z5:=HNB.out.frozen 5;have z6:=HNB.out.frozen 6;have z7:=HNB.out.frozen 7;have z8:=HNB.out.frozen 8)|(go_at_call 111;refine (HFN.out _ ?_).mono ?_;(with_reducible exact (Below.refl _ _).drew);rintro e w6 ⟨rfl,hbel6,hb6⟩;clear hb6;have hnb:¬b=w6.heap.size:=(by have:=hbel6.size;omega);have hng:¬g=w6.heap.size:=(by have:=hbel6.size;omega);have hnk:¬w.heap.size=w6.heap.size:=(by have:=hbel6.size;omega))|fail)
 all_goals
  go_wp2_with fail
  all_goals
   rename_i h8
   go_ret2
   refine ⟨?_,?_⟩
   ·rw [HMX.out,HXV.out]
    first
     | (have h9:(!x8)=false:=h8;exact getEnd_t h9)
     | (have h9:(!x8)=true:=h8;exact getEnd_f h9 HX7.out)
   ·with_reducible first
     | exact HbW.out.trans ((keepC hbel6).mono HbW.out.size)
     | exact HbW.out.trans ((keep9' hbel6).mono HbW.out.size)
     | exact HbW.out.trans (hbel6.mono HbW.out.size)
end
section
open Go.RowKit
structure StOk (n room:Nat) (cs:List (Option Rec)) (free:List Int):Prop where
 n16:n≤16
 room20:room≤1048576
 len:cs.length≤room
 cnt:cntC cs+free.length=cs.length
 wf:∀(i:Nat) (r:Rec),cs[i]? =some (some r)→r.Wf
def StoreAt (w:World) (F:List Nat) (g n room:Nat) (cs:List (Option Rec)) (free:List Int):Prop:=
 ∃(ga gi:Nat) (Fa Fi:List Nat) (m:Rec→Option Nat),Blk w g 84 #[.int .i64 (n:Nat),.pointer (some ⟨ga,0,none⟩),.pointer (some ⟨gi,0,none⟩)]∧ArenaAt w Fa ga cs free room∧IdxAt w Fi gi m (cntC cs)∧
  (∀ (r:Rec) (id:Nat),m r=some id↔recAt cs id=some r)∧F=g::(Fa++Fi)∧F.Nodup∧StOk n room cs free
section
variable {w w':World} {F G:List Nat} {g n room:Nat} {cs:List (Option Rec)} {free:List Int}
theorem StoreAt.chg (h:StoreAt w F g n room cs free) (hb:Chg G w w') (hd:∀k∈F,¬k∈G):StoreAt w' F g n room cs free:=by
 obtain ⟨ga,gi,Fa,Fi,m,h1,h2,h3,h4,rfl,h6,h7⟩:=h
 exact ⟨ga,gi,Fa,Fi,m,h1.chg hb (hd g (by simp)),h2.chg hb (fun k hk=>hd k (by simp [hk])),h3.chg hb (fun k hk=>hd k (by simp [hk])),h4,rfl,h6,h7⟩
theorem StoreAt.on (h:StoreAt w F g n room cs free) (hb:Below w.heap.size w w'):StoreAt w' F g n room cs free:=h.chg (G:=[]) (chg_of_below hb) (fun _ _ h=>by cases h)
theorem StoreAt.lt (h:StoreAt w F g n room cs free):∀k∈F,k<w.heap.size:=by
 obtain ⟨ga,gi,Fa,Fi,m,h1,h2,h3,h4,rfl,h6,h7⟩:=h
 intro k hk
 rcases List.mem_cons.1 hk with rfl|hk
 ·exact h1.lt
 ·rcases List.mem_append.1 hk with hk|hk
  ·exact h2.lt k hk
  ·exact h3.lt k hk
theorem StoreAt.ok (h:StoreAt w F g n room cs free):StOk n room cs free:=by
 obtain ⟨ga,gi,Fa,Fi,m,h1,h2,h3,h4,h5,h6,h7⟩:=h
 exact h7
end
theorem recAt_wf {n room:Nat} {cs:List (Option Rec)} {free:List Int} (h:StOk n room cs free) {id:Int} {r:Rec} (hr:recAt cs id=some r):r.Wf:=h.wf _ r (recAt_some hr).2.2
theorem recAt_nil (id:Int):recAt [] id=none:=by unfold recAt;split<;>rfl
theorem storeVars_any (F:List Nat) (g n room:Nat) (cs:List (Option Rec)) (free:List Int) (w:World) (h:StoreAt w F g n room cs free) :
  Calls Tryz.prog 45 #[.pointer (some ⟨g,0,none⟩)] w fun e w'=>e = .returned (.int .i64 (n:Nat))∧w=w':=by
 obtain ⟨ga,gi,Fa,Fi,m,hB,hA,hI,h4,rfl,h6,h7⟩:=h
 have hc0:w.cell? ⟨g,0,none⟩=some (.int .i64 (n:Nat)):=hB.cell 0
 clear hB hA hI h4 h6 h7
 go_enter Tryz.func45,Tryz.ntmps45
 go_wp2_with fail
 go_ret
 exact ⟨rfl,rfl⟩
theorem storeLen_any (F:List Nat) (g n room:Nat) (cs:List (Option Rec)) (free:List Int) (w:World) (h:StoreAt w F g n room cs free) :
  Calls Tryz.prog 27 #[.pointer (some ⟨g,0,none⟩)] w fun e w'=>e = .returned (.int .i64 (cntC cs:Nat))∧w=w':=by
 obtain ⟨ga,gi,Fa,Fi,m,hB,hA,hI,h4,rfl,h6,h7⟩:=h
 have hc0:w.cell? ⟨g,1,none⟩=some (.pointer (some ⟨ga,0,none⟩)):=hB.cell 1
 have HA:=Lib.hid hA
 clear hB hA hI h4 h6 h7
 go_enter Tryz.func27,Tryz.ntmps27
 go_wp2_with fail
 refine (arenaLen_any _ _ _ _ _ _ HA.out).mono ?_
 rintro e w' ⟨rfl,rfl⟩
 go_wp2_with fail
 go_ret
 exact ⟨rfl,rfl⟩
def getR (x:Option Rec):Value:=match x with |some r=> .tuple #[.agg r.cells.toArray,.bool true]|none=> .tuple #[.agg Rec.nil.cells.toArray,.bool false]
theorem arenaGet_any (F:List Nat) (g:Nat) (cs:List (Option Rec)) (free:List Int) (room:Nat) (id:Int) (w:World) (h:ArenaAt w F g cs free room) (h0:0≤id) (hid:id≤4294967295) :
  Calls Tryz.prog 76 #[.pointer (some ⟨g,0,none⟩),.int .u32 id] w fun e w'=>e = .returned (getR (recAt cs id))∧Below w.heap.size w w':=by
 cases hr:recAt cs id with
 | none=>exact arenaGet_none F g cs free room id w h h0 hid hr
 | some r=>exact arenaGet_some F g cs free room id r w h hid hr
set_option maxHeartbeats 1000000 in
theorem storeGet_any (F:List Nat) (g n room:Nat) (cs:List (Option Rec)) (free:List Int) (id:Int) (w:World) (h:StoreAt w F g n room cs free) (h0:0≤id) (hid:id≤4294967295) :
  Calls Tryz.prog 84 #[.pointer (some ⟨g,0,none⟩),.int .u32 id] w fun e w'=>e = .returned (getR (recAt cs id))∧Below w.heap.size w w':=by
 obtain ⟨ga,gi,Fa,Fi,m,hB,hA,hI,h4,rfl,h6,h7⟩:=h
 have hlt:=hB.lt
 have hc0:w.cell? ⟨g,1,none⟩=some (.pointer (some ⟨ga,0,none⟩)):=hB.cell 1
 have hne:¬g=w.heap.size:=by omega
 have HA:=Lib.hid hA
 obtain ⟨f,t,b,lt,lp,ht,hp,bb,hv⟩:∃f t b lt lp ht hp bb,getR (recAt cs id) = .tuple #[.agg #[.int .u8 f,.int .u8 t,.int .u8 b,.int .u8 lt,.int .u32 lp,.int .u8 ht,.int .u32 hp],.bool bb]:=by
  cases recAt cs id with
  | none=>exact ⟨_,_,_,_,_,_,_,_,rfl⟩
  | some r=>obtain ⟨_,_,_,⟨_,_⟩,⟨_,_⟩⟩:=r;exact ⟨_,_,_,_,_,_,_,_,rfl⟩
 have HV:=Lib.hid hv
 clear hB hA hI h4 h6 h7 hv
 go_enter Tryz.func84,Tryz.ntmps84
 go_wp2_with fail
 refine (arenaGet_any _ _ _ _ _ id _ (HA.out.on ((Below.refl _ _).alloc (Nat.le_refl _) _)) h0 hid).mono ?_
 rintro e w1 ⟨rfl,hb1⟩
 rw [HV.out]
 have HN:=Lib.hid ((Blk.new w 78 #[.int .u8 0,.int .u8 0,.int .u8 0,.int .u8 0,.int .u32 0,.int .u8 0,.int .u32 0]).on' hb1)
 have n0:w1.cell? ⟨w.heap.size,0,none⟩=some (.int .u8 0):=HN.out.cell 0
 have n1:w1.cell? ⟨w.heap.size,1,none⟩=some (.int .u8 0):=HN.out.cell 1
 have n2:w1.cell? ⟨w.heap.size,2,none⟩=some (.int .u8 0):=HN.out.cell 2
 have n3:w1.cell? ⟨w.heap.size,3,none⟩=some (.int .u8 0):=HN.out.cell 3
 have n4:w1.cell? ⟨w.heap.size,4,none⟩=some (.int .u32 0):=HN.out.cell 4
 have n5:w1.cell? ⟨w.heap.size,5,none⟩=some (.int .u8 0):=HN.out.cell 5
 have n6:w1.cell? ⟨w.heap.size,6,none⟩=some (.int .u32 0):=HN.out.cell 6
 have z0:=HN.out.frozen 0
 have z1:=HN.out.frozen 1
 have z2:=HN.out.frozen 2
 have z3:=HN.out.frozen 3
 have z4:=HN.out.frozen 4
 have z5:=HN.out.frozen 5
 have z6:=HN.out.frozen 6
 have HB:=Lib.hid (((Below.refl _ _).alloc (Nat.le_refl _) _).trans (hb1.mono (by simp)))
 clear hb1
 go_wp2_with fail
 refine bodyPost_ret (v:= .tuple #[.agg #[.int .u8 f,.int .u8 t,.int .u8 b,.int .u8 lt,.int .u32 lp,.int .u8 ht,.int .u32 hp],.bool bb]) (by simp [results,Tryz.results84,go_sem, *]) rfl ⟨by rw [HV.out],?_⟩
 have hm:=Nat.le_refl w.heap.size
 exact ((((((HB.out.setCell hm _).setCell hm _).setCell hm _).setCell hm _).setCell hm _).setCell hm _).setCell hm _
end
end
end Go.Proofs.YtnlmlehcpngcgaaGreat
