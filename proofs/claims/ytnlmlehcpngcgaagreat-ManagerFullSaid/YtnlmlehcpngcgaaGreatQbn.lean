/- Contract: index.Drop. -/
import Derived.Test.YtnlmlehcpngcgaaGreatQbj
import Derived.Test.YtnlmlehcpngcgaaGreatQac
import Derived.Test.YtnlmlehcpngcgaaGreatQah
import Derived.Test.YtnlmlehcpngcgaaGreatQba
namespace Go.Proofs.YtnlmlehcpngcgaaGreat
set_option linter.unusedSimpArgs false
set_option linter.unusedVariables false
section
open Go.RowKit Go.Sort
abbrev tIx:TypeId:=128
abbrev tSl:TypeId:=201
def idxR (g b N c:Nat) (sl:List (Option (Rec×Nat))) (k:Nat):Res:=
 ⟨fun W F=>F=[g,b]∧g≠b∧Blk W g tIx #[.slice (some ⟨b,0,none⟩) N c,.int .i64 (k:Nat)]∧OwnS 9 slotEnc tSl W 0 (.slice (some ⟨b,0,none⟩) N c) sl∧sl.length=N,
  (fun {W W' F G} h hc hd=>by
   obtain ⟨rfl,hne,hB,hO,hl⟩:=h
   exact ⟨rfl,hne,hB.chg hc (hd g (by simp)),hO.chg hc (fun k hk=>hd k (by simp [mem_blk,Value.ownBlock] at hk;simp [hk])),hl⟩),
  (fun {W F} h k hk=>by
   obtain ⟨rfl,hne,hB,hO,hl⟩:=h
   simp at hk
   rcases hk with rfl|rfl
   ·exact hB.lt
   ·exact OwnS.blk_lt hO _ (by simp [mem_blk,Value.ownBlock]))⟩
section
variable {g b N c k i p id hole t u:Nat} {sl sl0:List (Option (Rec×Nat))} {x z:Rec×Nat} {r ki:Rec} {idi:Nat} {F:List Nat} {w:World}
theorem idx_slots (h:(idxR g b N c sl k).at_ w F):SlotsAt w F g sl k:=by
 obtain ⟨rfl,hne,hB,hO,hl⟩:=h
 exact ⟨_,N,c,hB,hO,hl,by simp [blk,Value.ownBlock],by simp;exact hne⟩
theorem idx_ldS (h:(idxR g b N c sl k).at_ w F):(Instr.loadAt 126 (.pointer (some ⟨g,0,none⟩))).run Tryz.prog w = .ok (.slice (some ⟨b,0,none⟩) N c) w:=run_ld (by kernel_rfl) (h.2.2.1.cell 0)
theorem idx_ldN (h:(idxR g b N c sl k).at_ w F):(Instr.loadAt 3 (.pointer (some ⟨g,1,none⟩))).run Tryz.prog w = .ok (.int .i64 (k:Nat)) w:=run_ld (by kernel_rfl) (h.2.2.1.cell 1)
theorem idx_ix {kk:IntKind} (hi:i<N):(Instr.indexAt 126 (.slice (some ⟨b,0,none⟩) N c) (.int kk (i:Int))).run Tryz.prog w = .ok (.pointer (some ⟨b,i*9,none⟩)) w:=by
 have:=run_ixS (P:=Tryz.prog) (w:=w) (t:=126) (e:=tSl) (n:=N) (c:=c) (s:=9) (k:=kk) (b:=b) (off:=0) i (by kernel_rfl) (by kernel_rfl) hi
 rw [Nat.zero_add] at this
 exact this
theorem idx_row {y:Option (Rec×Nat)} (h:(idxR g b N c sl k).at_ w F) (hy:sl[i]? =some y):w.rangeAt b (i*9) (slotEnc y)∧w.there b (i*9) 9:=OwnS.at_ slotEnc_len h.2.2.2.1 i y hy
theorem idx_ldB (h:(idxR g b N c sl k).at_ w F) (hy:At sl i r id):(Instr.loadAt 4 (.pointer (some ⟨b,i*9+8,none⟩))).run Tryz.prog w = .ok (.bool true) w:=
 run_ld (by kernel_rfl) ((idx_row h hy).1 8 _ rfl)
theorem idx_ldB0 (h:(idxR g b N c sl k).at_ w F) (hy:sl[i]? =some none):(Instr.loadAt 4 (.pointer (some ⟨b,i*9+8,none⟩))).run Tryz.prog w = .ok (.bool false) w:=
 run_ld (by kernel_rfl) ((idx_row h hy).1 8 _ rfl)
theorem idx_ldK (h:(idxR g b N c sl k).at_ w F) (hy:At sl i r id):(Instr.loadAt 82 (.pointer (some ⟨b,i*9,none⟩))).run Tryz.prog w = .ok (.agg r.cells.toArray) w:=
 run_ldR (fun j v hj=>(idx_row h hy).1 j v (by
  have hl:j<r.cells.length:=(List.getElem?_eq_some_iff.1 hj).1
  show (r.cells++[.int .u32 (id:Nat),.bool true])[j]? =some v
  rw [List.getElem?_append_left hl]
  exact hj)) (by kernel_rfl) (by kernel_rfl)
theorem idx_ldR (h:(idxR g b N c sl k).at_ w F) (hy:At sl i r id):(Instr.loadAt tSl (.pointer (some ⟨b,i*9,none⟩))).run Tryz.prog w = .ok (.agg (slotEnc (some (r,id))).toArray) w:=
 run_ldR (idx_row h hy).1 (by kernel_rfl) (by kernel_rfl)
theorem idx_stN {k2:Nat} (h:(idxR g b N c sl k).at_ w F):(do Instr.storeAt 3 (.pointer (some ⟨g,1,none⟩)) (.int .i64 (k2:Int));pure undef:Sem Value).run Tryz.prog w = .ok undef (w.setCells g 1 [.int .i64 (k2:Int)])∧Lands (idxR g b N c sl k2) F w (w.setCells g 1 [.int .i64 (k2:Int)]):=by
 obtain ⟨rfl,hne,hB,hO,hl⟩:=h
 refine ⟨run_st (v:= .int .i64 (k2:Int)) (by kernel_rfl) (fun j hj=>?_) (fun j hj=>hB.frozen _) (by simp [Value.cells,Value.oneCell']),?_⟩
 ·have:j=0:=by simp [Value.cells] at hj;exact hj
  subst this
  rw [hB.cell]
  rfl
 ·have hch:Chg [g] w (w.setCells g 1 [.int .i64 (k2:Int)]):=Chg.setCells (Chg.refl _ _) (.inl (by simp)) _ _
  refine ⟨[g,b],⟨rfl,hne,hB.set_ 1 _,hO.chg hch (fun k hk=>?_),hl⟩,fun y hy=> .inl hy,hch.mono fun x hx=> .inl (by simp at hx;simp [hx])⟩
  simp [mem_blk,Value.ownBlock] at hk ⊢
  omega
theorem idx_st (hi:i<N) (y:Option (Rec×Nat)) (h:(idxR g b N c sl k).at_ w F):(do Instr.storeAt tSl (.pointer (some ⟨b,i*9,none⟩)) (.agg (slotEnc y).toArray);pure undef:Sem Value).run Tryz.prog w = .ok undef (w.setCells b (i*9) (slotEnc y))∧Lands (idxR g b N c (sl.set i y) k) F w (w.setCells b (i*9) (slotEnc y)):=by
 obtain ⟨y0,hy0⟩:∃y0,sl[i]? =some y0:=⟨_,List.getElem?_eq_getElem (by rw [h.2.2.2.2];exact hi)⟩
 have hth:=(idx_row h hy0).2
 obtain ⟨rfl,hne,hB,hO,hl⟩:=h
 have hlen:=slotEnc_len y
 refine ⟨?_,?_⟩
 ·have h1:(Value.agg (slotEnc y).toArray).cells.size=9:=by
   show (slotEnc y).toArray.size=9
   rw [List.size_toArray,hlen]
  have:=run_st (P:=Tryz.prog) (w:=w) (t:=tSl) (b:=b) (off:=i*9) (v:= .agg (slotEnc y).toArray) (by rw [h1];kernel_rfl) (fun j hj=>(hth j (by omega)).1) (fun j hj=>(hth j (by omega)).2) (slotEnc_one y)
  exact this
 ·have hch:Chg [b] w (w.setCells b (i*9) (slotEnc y)):=Chg.setCells (Chg.refl _ _) (.inl (by simp)) _ _
  refine ⟨[g,b],⟨rfl,hne,hB.chg hch (by simp;exact hne),OwnS.set_ slotEnc_len hO i (by rw [hl];exact hi) y,by rw [List.length_set];exact hl⟩,fun y hy=> .inl hy,hch.mono fun x hx=> .inl (by simp at hx;simp [hx])⟩
theorem set_move {i hole:Nat} (hy:sl[i]? =some (some z)) (hne:i≠hole):((sl.set hole (some z)).set i none).set i (some z)=sl.set hole (some z):=by
 rw [List.set_set]
 apply List.ext_getElem?
 intro j
 by_cases e:j=i
 ·subst e
  have hl:j<sl.length:=(List.getElem?_eq_some_iff.1 hy).1
  rw [List.getElem?_set_self (by simpa using hl),List.getElem?_set_ne (fun e=>hne e.symm),hy]
 ·rw [List.getElem?_set_ne (fun e'=>e e'.symm)]
theorem idx_move (hh:hole<N) (hy:sl[i]? =some (some z)) (hne:i≠hole) (h:(idxR g b N c (sl.set hole (some x)) k).at_ w F):(do Instr.storeAt tSl (.pointer (some ⟨b,hole*9,none⟩)) (.agg (slotEnc (some z)).toArray);pure undef:Sem Value).run Tryz.prog w = .ok undef (w.setCells b (hole*9) (slotEnc (some z)))∧Lands (idxR g b N c (((sl.set hole (some z)).set i none).set i (some z)) k) F w (w.setCells b (hole*9) (slotEnc (some z))):=by
 have:=idx_st hh (some z) h
 rw [List.set_set] at this
 rw [set_move hy hne]
 exact this
theorem idx_find (hq:Hid (∃ q,q≤40∧N=2^q)) (hc:cnt sl<sl.length) (hr:r.Wf) (h:(idxR g b N c sl k).at_ w F):Calls Tryz.prog 111 #[.pointer (some ⟨g,0,none⟩),.agg r.cells.toArray] w fun e w'=>∃p:Nat,Says (.int .i64 (p:Int)) (idxR g b N c sl k) F w e w'∧Stops hsh sl r p:=by
 refine (find_any F g k sl r w (idx_slots h) (Lib.hid (by rw [h.2.2.2.2];exact hq.out)) hc hr).mono ?_
 rintro e w' ⟨⟨p,rfl,hp⟩,hb⟩
 exact ⟨p,⟨rfl,.of_below h hb⟩,hp⟩
theorem idx_next (hq:Hid (∃ q,q≤40∧N=2^q)) (hi:i<N) (h:(idxR g b N c sl k).at_ w F):Calls Tryz.prog 112 #[.pointer (some ⟨g,0,none⟩),.int .i64 (i:Int)] w (Says (.int .i64 (nxt i N:Int)) (idxR g b N c sl k) F w):=by
 refine (next_any _ g N c i _ w h.2.2.1 hq hi).mono ?_
 rintro e w' ⟨rfl,rfl⟩
 exact ⟨rfl,.of_below h (Below.refl _ _)⟩
theorem idx_home (hq:Hid (∃ q,q≤40∧N=2^q)) (hr:r.Wf) (h:(idxR g b N c sl k).at_ w F):Calls Tryz.prog 113 #[.pointer (some ⟨g,0,none⟩),.agg r.cells.toArray] w (Says (.int .i64 (plc r N 0:Int)) (idxR g b N c sl k) F w):=by
 refine (home_any _ g N c _ r w h.2.2.1 hq hr).mono ?_
 rintro e w' ⟨rfl,hb⟩
 exact ⟨rfl,.of_below h hb⟩
theorem idx_back (hp:At sl0 p r id) (h:(idxR g b N c sl0 k).at_ w F):(idxR g b N c ((sl0.set p none).set p (some (r,id))) k).at_ w F:=by
 have e:(sl0.set p none).set p (some (r,id))=sl0:=by
  rw [List.set_set]
  apply List.ext_getElem?
  intro j
  by_cases e:j=p
  ·subst e
   rw [List.getElem?_set_self hp.lt]
   exact hp.symm
  ·rw [List.getElem?_set_ne (fun e'=>e e'.symm)]
 rw [e]
 exact h
theorem idx_same (hn:sl[hole]? =some none) (h:(idxR g b N c (sl.set hole none) k).at_ w F):(idxR g b N c sl k).at_ w F:=by
 have e:sl.set hole none=sl:=by
  apply List.ext_getElem?
  intro j
  by_cases e:j=hole
  ·subst e
   rw [List.getElem?_set_self (List.getElem?_eq_some_iff.1 hn).1]
   exact hn.symm
  ·rw [List.getElem?_set_ne (fun e'=>e e'.symm)]
 rw [e] at h
 exact h
end
theorem plc_lt (r:Rec) {N:Nat} (h:0<N):plc r N 0<N:=Nat.mod_lt _ h
theorem mask_dst {N i h:Nat} (hq:∃q,q≤40∧N=2^q) (hi:i<N) (hh:h<N):bits .and .i64 (IntKind.i64.wrap ((i:Int)-(h:Int))) ((N:Int)-1)=(dst N h i:Int):=by
 have hN:=two_le40 hq
 obtain ⟨q,hq,rfl⟩:=hq
 rw [IntWalk.i64_in _ (by omega)]
 have hm:(BitVec.ofInt 64 (((2^q:Nat):Int)-1)).toNat=2^q-1:=by
  rw [show (((2^q:Nat):Int)-1)=((2^q-1:Nat):Int) by omega,BitVec.ofInt_natCast,BitVec.toNat_ofNat]
  exact Nat.mod_eq_of_lt (by omega)
 have key:(BitVec.ofInt 64 ((i:Int)-(h:Int)) &&& BitVec.ofInt 64 (((2^q:Nat):Int)-1)).toNat=dst (2^q) h i:=by
  rw [BitVec.toNat_and,BitVec.toNat_ofInt,hm,Nat.and_two_pow_sub_one_eq_mod]
  rcases dsc_ (2^q) h i with ⟨h1,h2⟩|⟨h1,h2⟩
  ·rw [h2,show (((i:Int)-(h:Int))%((2^64:Nat):Int)).toNat=i-h by omega]
   exact Nat.mod_eq_of_lt (by omega)
  ·have e1:(((i:Int)-(h:Int))%((2^64:Nat):Int)).toNat=2^64-(h-i):=by omega
   have e2:2^64=2^q*2^(64-q):=by rw [← Nat.pow_add];congr 1;omega
   have e3:0<2^(64-q):=Nat.two_pow_pos _
   have e4:2^64-(h-i)=(i+2^q-h)+2^q*(2^(64-q)-1):=by
    rw [Nat.mul_sub,Nat.mul_one,←e2]
    have:2^q≤2^64:=Nat.pow_le_pow_right (by omega) (by omega)
    omega
   rw [e1,e4,Nat.add_mul_mod_self_left,Nat.mod_eq_of_lt (by omega),h2]
 show IntKind.i64.wrap ((BitVec.ofInt 64 ((i:Int)-(h:Int)) &&& BitVec.ofInt 64 (((2^q:Nat):Int)-1)).toNat:Int)=_
 rw [key,IntWalk.i64_in _ (by rcases dsc_ (2^q) h i with h|h<;>omega)]
structure DrpOk (sl0 sl:List (Option (Rec×Nat))) (r:Rec) (k:Nat):Prop where
 look:∀k2 id2,Look sl k2 id2↔k2≠r∧Look sl0 k2 id2
 cnt:cnt sl=k
 ok:SlotsOk sl
section
variable {sl0 sl:List (Option (Rec×Nat))} {r ki:Rec} {k id idi p N hole t u i:Nat}
theorem DrpOk.wf (h:DrpOk sl0 sl r k) (hy:sl[i]? =some (some (ki,idi))):ki.Wf:=(h.ok i ki idi hy).1
theorem DrpOk.start (ht:Tab hsh sl0) (hp:At sl0 p r id) (hc:Go.Proofs.YtnlmlehcpngcgaaGreat.cnt sl0=k+1) (hok:SlotsOk sl0):DrpOk sl0 (sl0.set p none) r k:=
 ⟨look_start (fun _ _ _ _ _ h1 h2=>ht.uniq hsh h1 h2) hp,by have:=cnt_setn hp;omega,fun i k2 id2 h=>hok i k2 id2 (at_of_setn h).2⟩
theorem DrpOk.move (h:DrpOk sl0 sl r k) (hH:Hol hsh sl N hole t u) (ha:At sl i ki idi) (hne:i≠hole):DrpOk sl0 ((sl.set hole (some (ki,idi))).set i none) r k:=by
 refine ⟨fun k2 id2=>(look_move hH.hn ha hne k2 id2).trans (h.look k2 id2),(cnt_move hH.hn ha hne).trans h.cnt,fun j k2 id2 hj=>?_⟩
 obtain ⟨j',hj'⟩:=(look_move hH.hn ha hne k2 id2).1 ⟨j,hj⟩
 exact h.ok j' k2 id2 hj'
theorem Hol.move' (h:Hol hsh sl N hole t u) (hi:i=pl N hole t) (ha:At sl i ki idi) (hd:t≤dst N (hsh ki%N) i):Hol hsh ((sl.set hole (some (ki,idi))).set i none) N i 1 (u-t):=by
 subst hi
 exact h.move hsh ha hd
theorem Hol.stay' (h:Hol hsh sl N hole t u) (hi:i=pl N hole t) (ha:At sl i ki idi) (hd:dst N (hsh ki%N) i<t):Hol hsh sl N hole (t+1) u:=by
 subst hi
 exact h.stay hsh ha hd
theorem nxt_of {a:Nat} (ha:a<N):nxt a N=pl N a 1:=by
 unfold nxt
 by_cases h:1<N
 ·exact pl_mod ha h
 ·have:N=1:=by omega
  subst this
  unfold pl
  have:a=0:=by omega
  subst this
  rfl
theorem nxt_pl (hi:i=pl N hole t) (hH:Hol hsh sl N hole t u):nxt i N=pl N hole (t+1):=by
 have:=hH.h0;have:=hH.uN;have:=hH.tu
 have q1:=plc_ N hole t;have q2:=plc_ N hole (t+1)
 rw [nxt_of (by omega)]
 have q3:=plc_ N i 1
 omega
end
def dropR (g b N c:Nat) (sl0:List (Option (Rec×Nat))) (r:Rec) (k:Nat):Res:=
 ⟨fun W F=>∃sl,Tab hsh sl∧DrpOk sl0 sl r k∧(idxR g b N c sl k).at_ W F,(fun ⟨sl,h1,h2,h3⟩ hc hd=>⟨sl,h1,h2,Res.chg _ h3 hc hd⟩),(fun ⟨sl,h1,h2,h3⟩=>Res.lt _ h3)⟩
set_option maxRecDepth 100000 in
set_option maxHeartbeats 4000000 in
theorem idxDropR {g b N c k id p:Nat} {sl0:List (Option (Rec×Nat))} {r:Rec} {F:List Nat} {w:World} (h:(idxR g b N c sl0 (k+1)).at_ w F) (hq:Hid (∃ q,q≤40∧N=2^q)) (hlen:sl0.length=N) (hc0:cnt sl0<sl0.length) (hcn:cnt sl0=k+1) (hk:k+1≤1048576) (ht:Tab hsh sl0) (hok0:SlotsOk sl0) (hp:At sl0 p r id) (hr:r.Wf) :
  Calls Tryz.prog 95 #[.pointer (some ⟨g,0,none⟩),.agg r.cells.toArray] w (Says (.bool true) (dropR g b N c sl0 r k) F w):=by
 have hqN:=hq.out
 have hN40:=two_le40 hqN
 have hN0:0<N:=by omega
 have hN1:IntKind.i64.wrap ((N:Int)-1)=(N:Int)-1:=IntWalk.i64_in _ (by omega)
 have hk1:IntKind.i64.wrap (((k+1:Nat):Int)-1)=(k:Int):=by rw [IntWalk.i64_in _ (by omega)];omega
 have hpN:p<N:=by rw [← hlen];exact hp.lt
 have hplc:∀r:Rec,plc r N 0=hsh r%N:=fun r=>by unfold plc;rw [Nat.add_zero]
 refine TTg [VP g,.v (.agg r.cells.toArray)] Tryz.func95 Tryz.ntmps95 h ?_
 refine TTa 0 ⟨[(0,VP g),(3,.p 0 0)],[(0,⟨82,false,[V8 r.form,V8 r.top,V8 r.bot,V8 r.lo.tag,V32 r.lo.pos,V8 r.hi.tag,V32 r.hi.pos]⟩)]⟩ ?_
 refine TT.seq (TTa 10 ⟨[(0,VP g),(3,.p 0 0),(10,VB false)],[(0,⟨82,false,[V8 r.form,V8 r.top,V8 r.bot,V8 r.lo.tag,V32 r.lo.pos,V8 r.hi.tag,V32 r.hi.pos]⟩)]⟩ ?_)
 refine TTu (TT.next ?_)
 refine TTE 1 false [2] 10 ?_
 refine RVc 2 111 (fun ρ=>[.pointer (some ⟨g,0,none⟩),.agg #[.int .u8 r.form,.int .u8 r.top,.int .u8 r.bot,.int .u8 r.lo.tag,.int .u32 r.lo.pos,.int .u8 r.hi.tag,.int .u32 r.hi.pos]]) [] (fun ρ w1 F1 hF1 hpk1=>?_)
 refine (idx_find hq hc0 hr hF1).mono ?_
 rintro e1 w'1 ⟨p',⟨rfl,hl1⟩,hsp⟩
 obtain ⟨hpp,_⟩:=hsp.only hsh ht hp
 subst hpp
 refine ⟨V64 (p':Int),_,rfl,hl1,?_⟩
 refine RVz ⟨[(0,VP g),(5,V64 (p':Int))],[]⟩ ?_
 refine TT.seq (TTe 3 [3,5,7] ?_)
 refine RVd 3 (.load 126 (VP g)) (.v (.slice (some ⟨b,0,none⟩) N c)) (fun ρ w F hF=>idx_ldS hF) ?_
 refine RVd 5 (.idx 126 (.v (.slice (some ⟨b,0,none⟩) N c)) (V64 (p':Int))) (.v (.pointer (some ⟨b,p'*9,none⟩))) (fun ρ w F hF=>idx_ix hpN) ?_
 refine RVd 7 (.load 4 (.v (.pointer (some ⟨b,p'*9+8,none⟩)))) (VB true) (fun ρ w F hF=>idx_ldB hF hp) ?_
 refine RVz ⟨[(0,VP g),(5,V64 (p':Int)),(22,VB false)],[]⟩ ?_
 refine TTu (TT.next ?_)
 refine TTe 3 [3,4,7] ?_
 refine RVd 3 (.load 3 (.v (.pointer (some ⟨g,1,none⟩)))) (V64 ((k+1:Nat):Int)) (fun ρ w F hF=>idx_ldN hF) ?_
 refine RVp 4 (.int .i64 (IntKind.i64.wrap (((k+1:Nat):Int)-1))) (.int .i64 (k:Int)) (by rw [hk1]) ?_
 refine RVw 7 (.store 3 (.v (.pointer (some ⟨g,1,none⟩))) (V64 (k:Int))) (fun ρ w F hF=>⟨_,.v undef,idxR g b N c sl0 k,(idx_stN hF).1,(idx_stN hF).2,?_⟩)
 refine RVz ⟨[(0,VP g),(5,V64 (p':Int))],[]⟩ ?_
 refine TT.seq (TTe 1 [2] ?_)
 refine RVc 2 112 (fun ρ=>[.pointer (some ⟨g,0,none⟩),.int .i64 (p':Int)]) [] (fun ρ w2 F2 hF2 hpk2=>?_)
 refine (idx_next hq hpN hF2).mono ?_
 rintro e2 w'2 ⟨rfl,hl2⟩
 refine ⟨V64 (nxt p' N:Int),_,rfl,hl2,?_⟩
 refine RVz ⟨[(0,VP g),(5,V64 (p':Int)),(6,V64 (nxt p' N:Int))],[]⟩ ?_
 refine TT.block ?_
 obtain ⟨u0,hH0⟩:=Hol.start hsh ht hp hc0
 rw [hlen] at hH0
 have hD0:=DrpOk.start ht hp hcn hok0
 refine TT.res (R':=idxR g b N c ((sl0.set p' none).set p' (some (r,id))) k) (fun W F h=>idx_back hp h) ?_
 refine TT.loop (ι:=List (Option (Rec×Nat))×(Rec×Nat)×Nat×Nat×Nat×Nat) (fun ⟨sl,x,hole,t,u,i⟩=>Hol hsh sl N hole t u∧i=pl N hole t∧DrpOk sl0 sl r k) (fun ⟨sl,x,hole,t,u,i⟩=>⟨[(0,VP g),(5,V64 (hole:Int)),(6,V64 (i:Int))],[]⟩) (fun ⟨sl,x,hole,t,u,i⟩=>idxR g b N c (sl.set hole (some x)) k) (fun ⟨sl,x,hole,t,u,i⟩=>u-t) ⟨sl0.set p' none,(r,id),p',1,u0,nxt p' N⟩ (⟨hH0,nxt_of hpN,hD0⟩) rfl rfl (fun ⟨sl,x,hole,t,u,i⟩ hi3=>?_)
 show TT _ _ _ ⟨[(0,VP g),(5,V64 (hole:Int)),(6,V64 (i:Int))],[]⟩ (idxR g b N c (sl.set hole (some x)) k) _
 obtain ⟨hH,hi,hD⟩:=hi3
 have hoN:=hH.h0
 have hiN:i<N:=by rw [hi];have:=plc_ N hole t;have:=hH.uN;have:=hH.tu;omega
 have hne:i≠hole:=by rw [hi];have:=plc_ N hole t;have:=hH.uN;have:=hH.tu;have:=hH.t1;omega
 have hdst:dst N hole i=t:=by rw [hi];have:=plc_ N hole t;have:=dsc_ N hole (pl N hole t);have:=hH.uN;have:=hH.tu;omega
 have hd2:=mask_dst hqN hiN hoN
 obtain ⟨y,hy⟩:∃y,sl[i]? =some y:=⟨_,List.getElem?_eq_getElem (by rw [hH.len];exact hiN)⟩
 have hai:(sl.set hole (some x))[i]? =some y:=by rw [List.getElem?_set_ne (fun e=>hne e.symm)];exact hy
 cases y with
 | none=>
  refine TT.seq (TTe 3 [3,5,7] ?_)
  refine RVd 3 (.load 126 (VP g)) (.v (.slice (some ⟨b,0,none⟩) N c)) (fun ρ w F hF=>idx_ldS hF) ?_
  refine RVd 5 (.idx 126 (.v (.slice (some ⟨b,0,none⟩) N c)) (V64 (i:Int))) (.v (.pointer (some ⟨b,i*9,none⟩))) (fun ρ w F hF=>idx_ix hiN) ?_
  refine RVd 7 (.load 4 (.v (.pointer (some ⟨b,i*9+8,none⟩)))) (VB false) (fun ρ w F hF=>idx_ldB0 hF hai) ?_
  refine RVz ⟨[(0,VP g),(5,V64 (hole:Int)),(6,V64 (i:Int)),(40,VB false)],[]⟩ ?_
  refine TTn ?_
  refine TTx ?_
  refine TT.next ?_
  refine TTe 3 [3,6,7] ?_
  refine RVd 3 (.load 126 (VP g)) (.v (.slice (some ⟨b,0,none⟩) N c)) (fun ρ w F hF=>idx_ldS hF) ?_
  refine RVd 6 (.idx 126 (.v (.slice (some ⟨b,0,none⟩) N c)) (V64 (hole:Int))) (.v (.pointer (some ⟨b,hole*9,none⟩))) (fun ρ w F hF=>idx_ix hoN) ?_
  refine RVw 7 (.store 201 (.v (.pointer (some ⟨b,hole*9,none⟩))) (.v (.agg (slotEnc none).toArray))) (fun ρ w F hF=>⟨_,.v undef,idxR g b N c ((sl.set hole (some x)).set hole none) k,(idx_st hoN _ hF).1,(idx_st hoN _ hF).2,?_⟩)
  refine RVz ⟨[],[]⟩ ?_
  refine TTa 0 ⟨[(4,VB true)],[]⟩ ?_
  refine TTs Tryz.results95 (VB true) (fun _ _ h=>h) (fun ρ a w4 hs4=>?_)
  exact ⟨rfl,(hs4.lands).imp fun _ h=>⟨sl,hH.tab hsh (by rw [← hi];exact hy),hD,by rw [List.set_set] at h;exact idx_same hH.hn h⟩⟩
 | some z=>
  obtain ⟨ki,idi⟩:=z
  have hki:=hD.wf hy
  have hd1:=mask_dst hqN hiN (plc_lt ki hN0)
  replace hai:At (sl.set hole (some x)) i ki idi:=hai
  have hyi:At sl i ki idi:=hy
  refine TT.seq (TTe 3 [3,5,7] ?_)
  refine RVd 3 (.load 126 (VP g)) (.v (.slice (some ⟨b,0,none⟩) N c)) (fun ρ w F hF=>idx_ldS hF) ?_
  refine RVd 5 (.idx 126 (.v (.slice (some ⟨b,0,none⟩) N c)) (V64 (i:Int))) (.v (.pointer (some ⟨b,i*9,none⟩))) (fun ρ w F hF=>idx_ix hiN) ?_
  refine RVd 7 (.load 4 (.v (.pointer (some ⟨b,i*9+8,none⟩)))) (VB true) (fun ρ w F hF=>idx_ldB hF hai) ?_
  refine RVz ⟨[(0,VP g),(5,V64 (hole:Int)),(6,V64 (i:Int)),(40,VB true)],[]⟩ ?_
  refine TTy ?_
  refine TT.skip ?_
  refine TT.next ?_
  refine TT.seq ?_
  refine TT.block ?_
  refine TTe 4 [4,6,8,9] ?_
  refine RVd 4 (.load 126 (VP g)) (.v (.slice (some ⟨b,0,none⟩) N c)) (fun ρ w F hF=>idx_ldS hF) ?_
  refine RVd 6 (.idx 126 (.v (.slice (some ⟨b,0,none⟩) N c)) (V64 (i:Int))) (.v (.pointer (some ⟨b,i*9,none⟩))) (fun ρ w F hF=>idx_ix hiN) ?_
  refine RVd 8 (.load 82 (.v (.pointer (some ⟨b,i*9,none⟩)))) (.v (.agg ki.cells.toArray)) (fun ρ w F hF=>idx_ldK hF hai) ?_
  refine RVc 9 113 (fun ρ=>[.pointer (some ⟨g,0,none⟩),.agg ki.cells.toArray]) [] (fun ρ w5 F5 hF5 hpk5=>?_)
  refine (idx_home hq hki hF5).mono ?_
  rintro e5 w'5 ⟨rfl,hl5⟩
  refine ⟨V64 (plc ki N 0:Int),_,rfl,hl5,?_⟩
  refine RVz ⟨[(0,VP g),(5,V64 (hole:Int)),(6,V64 (i:Int)),(7,V64 (plc ki N 0:Int))],[]⟩ ?_
  refine TTe 2 [3,5] ?_
  refine RVd 3 (.load 126 (VP g)) (.v (.slice (some ⟨b,0,none⟩) N c)) (fun ρ w F hF=>idx_ldS hF) ?_
  refine RVp 5 (.int .i64 (IntKind.i64.wrap ((N:Int)-1))) (.int .i64 ((N:Int)-1)) (by rw [hN1]) ?_
  refine RVz ⟨[(0,VP g),(5,V64 (hole:Int)),(6,V64 (i:Int)),(7,V64 (plc ki N 0:Int)),(8,V64 ((N:Int)-1))],[]⟩ ?_
  refine TTe 2 [4,9] ?_
  refine RVp 4 (.int .i64 (bits .and .i64 (IntKind.i64.wrap ((i:Int)-(plc ki N 0:Int))) ((N:Int)-1))) (.int .i64 (dst N (plc ki N 0) i:Int)) (by rw [hd1]) ?_
  refine RVp 9 (.int .i64 (bits .and .i64 (IntKind.i64.wrap ((i:Int)-(hole:Int))) ((N:Int)-1))) (.int .i64 (dst N hole i:Int)) (by rw [hd2]) ?_
  refine RVz ⟨[(0,VP g),(5,V64 (hole:Int)),(6,V64 (i:Int)),(70,VB (decide ((dst N (plc ki N 0) i:Int)≥(dst N hole i:Int))))],[]⟩ ?_
  refine TT.cond (b:=decide ((dst N (plc ki N 0) i:Int)≥(dst N hole i:Int))) (by kernel_rfl) (fun hc6=>?_) (fun hc6=>?_)
  ·refine TTE 6 true [3,8,10,11,12,13] 0 ?_
   refine RVd 3 (.load 126 (VP g)) (.v (.slice (some ⟨b,0,none⟩) N c)) (fun ρ w F hF=>idx_ldS hF) ?_
   refine RVd 8 (.load 126 (VP g)) (.v (.slice (some ⟨b,0,none⟩) N c)) (fun ρ w F hF=>idx_ldS hF) ?_
   refine RVd 10 (.idx 126 (.v (.slice (some ⟨b,0,none⟩) N c)) (V64 (i:Int))) (.v (.pointer (some ⟨b,i*9,none⟩))) (fun ρ w F hF=>idx_ix hiN) ?_
   refine RVd 11 (.load 201 (.v (.pointer (some ⟨b,i*9,none⟩)))) (.v (.agg (slotEnc (some (ki,idi))).toArray)) (fun ρ w F hF=>idx_ldR hF hai) ?_
   refine RVd 12 (.idx 126 (.v (.slice (some ⟨b,0,none⟩) N c)) (V64 (hole:Int))) (.v (.pointer (some ⟨b,hole*9,none⟩))) (fun ρ w F hF=>idx_ix hoN) ?_
   refine RVw 13 (.store 201 (.v (.pointer (some ⟨b,hole*9,none⟩))) (.v (.agg (slotEnc (some (ki,idi))).toArray))) (fun ρ w F hF=>⟨_,.v undef,idxR g b N c (((sl.set hole (some (ki,idi))).set i none).set i (some (ki,idi))) k,(idx_move hoN hy hne hF).1,(idx_move hoN hy hne hF).2,?_⟩)
   refine RVz ⟨[(0,VP g),(6,V64 (i:Int))],[]⟩ ?_
   refine TT.p0 (s':=⟨[(0,VP g),(5,V64 (i:Int)),(6,V64 (i:Int))],[]⟩) 0 (by kernel_rfl) ?_
   refine TT.next ?_
   refine TT.r (m:=1) false [2] 0 mixed (by kernel_rfl) ?_
   refine RVc 2 112 (fun ρ=>[.pointer (some ⟨g,0,none⟩),.int .i64 (i:Int)]) [] (fun ρ w7 F7 hF7 hpk7=>?_)
   refine (idx_next hq hiN hF7).mono ?_
   rintro e7 w'7 ⟨rfl,hl7⟩
   refine ⟨V64 (nxt i N:Int),_,rfl,hl7,?_⟩
   refine RV.fin (s':=⟨[(0,VP g),(5,V64 (i:Int)),(6,V64 (nxt i N:Int))],[]⟩) (by kernel_rfl) (by kernel_rfl) ?_
   simp only [decide_eq_true_eq] at hc6
   rw [hdst,hplc ki] at hc6
   exact fun ρ a w hs=>⟨ρ,⟨(sl.set hole (some (ki,idi))).set i none,(ki,idi),i,1,u-t,nxt i N⟩,⟨hH.move' hi hyi (by omega),nxt_of hiN,hD.move hH hyi hne⟩,by have:=hH.lt_u hsh (hi▸hyi);show u-t-1<u-t;omega,hs⟩
  ·refine TT.skip ?_
   refine TT.next ?_
   refine TT.r (m:=1) false [2] 0 mixed (by kernel_rfl) ?_
   refine RVc 2 112 (fun ρ=>[.pointer (some ⟨g,0,none⟩),.int .i64 (i:Int)]) [] (fun ρ w8 F8 hF8 hpk8=>?_)
   refine (idx_next hq hiN hF8).mono ?_
   rintro e8 w'8 ⟨rfl,hl8⟩
   refine ⟨V64 (nxt i N:Int),_,rfl,hl8,?_⟩
   refine RV.fin (s':=⟨[(0,VP g),(5,V64 (hole:Int)),(6,V64 (nxt i N:Int))],[]⟩) (by kernel_rfl) (by kernel_rfl) ?_
   simp only [decide_eq_false_iff_not] at hc6
   rw [hdst,hplc ki] at hc6
   exact fun ρ a w hs=>⟨ρ,⟨sl,x,hole,t+1,u,nxt i N⟩,⟨hH.stay' hi hyi (by omega),nxt_pl hi hH,hD⟩,by have:=hH.lt_u hsh (hi▸hyi);show u-(t+1)<u-t;omega,hs⟩
end
end Go.Proofs.YtnlmlehcpngcgaaGreat
