/- General words for memory: slices of integers that read as lists, owned rows, frames. Bits of int (i64) that is not negative, as natural numbers. Slices of one-cell elements that the call itself makes: made, appended to, stored into. Footprints: only the blocks of F may have turned. Slices whose elements have several cells: read, owned, stored into. Regions that draw their order, read, and call what makes memory: small words. -/
import Derived.Test.YtnlmlehcpngcgaaGreatRows
import Derived.WalkKit
import Derived.ProofKit
import Derived.Below
import Derived.Lib.Hide
import Derived.BigQuiet
import Derived.Deep.QuietTactic
import Derived.Outline
import Derived.Deep.Draws
import Derived.Deep.AppendLies
import Derived.Maps.AppendAt
import Derived.RegionTactic
import Derived.BigRegion
import Derived.WalkSpells
import Derived.Deep.MidRow
import Derived.Lib.QuietBelow
namespace Go.Proofs.YtnlmlehcpngcgaaGreat
set_option linter.unusedSimpArgs false
set_option linter.unusedVariables false
section
section
open Go.RowKit
def RowF {α:Type} (f:α→Value) (d:α) (w:World) (B:Nat) (A:Option Addr) (xs:List α):Prop:=
 0<xs.length→∃b off,A=some ⟨b,off,none⟩∧b<B∧∀j,j<xs.length→w.cell? ⟨b,off+j,none⟩=some (f (xs[j]?.getD d))
abbrev Ints:=RowF (Value.int .i64) 0
section
variable {α:Type} {f:α→Value} {d:α} {w w':World} {B B':Nat} {A:Option Addr} {zs:List α}
theorem RowF.nil_:RowF f d w B A []:=fun h=>absurd h (by simp)
theorem RowF.keep (h:RowF f d w B A zs) (hk:∀p:Addr,p.block<B→w'.cell? p=w.cell? p):RowF f d w' B A zs:=fun hn=>by
 obtain ⟨b,off,e,hb,hc⟩:=h hn
 exact ⟨b,off,e,hb,fun j hj=>(hk _ hb).trans (hc j hj)⟩
theorem RowF.more (h:RowF f d w B A zs) (hB:B≤B'):RowF f d w B' A zs:=fun hn=>by
 obtain ⟨b,off,e,hb,hc⟩:=h hn
 exact ⟨b,off,e,by omega,hc⟩
theorem RowF.below' (h:RowF f d w B A zs) (hb:Below B w w'):RowF f d w' B A zs:=h.keep fun _ hp=>hb.cell hp
theorem RowF.on (h:RowF f d w w.heap.size A zs) (hb:Below w.heap.size w w'):RowF f d w' w'.heap.size A zs:=(h.below' hb).more hb.size
theorem RowF.take (h:RowF f d w B A zs) (k:Nat):RowF f d w B A (zs.take k):=fun hn=>by
 rw [List.length_take] at hn
 obtain ⟨b,off,rfl,hb,hcell⟩:=h (by omega)
 refine ⟨b,off,rfl,hb,fun j hj=>?_⟩
 rw [List.length_take] at hj
 rw [hcell _ (by omega),List.getElem?_take,if_pos (by omega)]
end
theorem own_below {w w':World} {base e size n:Nat} {v:Value} {xs:List Value} (h:w.ownsRow base e size v n xs) (hb:Below w.heap.size w w'):w'.ownsRow base e size v n xs:=by
 rcases h with ⟨hl,h|⟨g,cap,cur,hv,hg,hh,hr⟩⟩
 ·exact ⟨hl,.inl h⟩
 ·refine ⟨hl,.inr ⟨g,cap,cur,hv,hg,?_,hr⟩⟩
  rw [hb.block g (by
   rcases Nat.lt_or_ge g w.heap.size with hlt|hge
   ·exact hlt
   ·rw [Array.getElem?_eq_none hge] at hh;cases hh)]
  exact hh
theorem own_mono {w:World} {base base' e size n:Nat} {v:Value} {xs:List Value} (h:w.ownsRow base e size v n xs) (hb:base'≤base):w.ownsRow base' e size v n xs:=by
 rcases h with ⟨hl,h|⟨g,cap,cur,hv,hg,hr⟩⟩
 ·exact ⟨hl,.inl h⟩
 ·exact ⟨hl,.inr ⟨g,cap,cur,hv,Nat.le_trans hb hg,hr⟩⟩
theorem below_drewN {B:Nat} {a w:World} (h:Below B a w) (n:Nat):Below B a (w.drewN n):=⟨h.os,h.tape,h.output,h.size,h.block⟩
theorem info_int:(Tryz.prog.info? 3).map (fun i=>(i.zero,i.size,i.bytes))=some (some (.int .i64 0),1,8):=by kernel_rfl
theorem q_same {P:Program} {f:FuncId} {args:Array Value} {w:World} {n:Nat} {v:Value}
  (h:Calls P f args (w.drewN n) fun e w'=>e = .returned v∧w.drewN n=w'):Calls P f args (w.drewN n) fun e w''=>e = .returned v∧∃m,w''=w.drewN m:=
 h.mono fun _ _ ⟨he,hm⟩=>⟨he,n,hm.symm⟩
theorem ret_int {k:IntKind} {a b:Int} (h:a=b):Ending.returned (.int k a) = .returned (.int k b):=by rw [h]
end
section
open Go.RowKit
theorem ofInt_i64 (a:Nat) (ha:a<18446744073709551616):(BitVec.ofInt 64 (a:Int)).toNat=a:=ofInt_u64 a ha
theorem wrap_i64_nat (x:Nat) (h:x<9223372036854775808):IntKind.i64.wrap (x:Int)=(x:Int):=IntWalk.i64_in _ (by omega)
theorem i64_and_nat (a b:Nat) (ha:a<9223372036854775808) (hb:b<9223372036854775808):bits .and .i64 (a:Int) (b:Int)=((a &&& b:Nat):Int):=by
 have hx:a &&& b<2^63:=Nat.and_lt_two_pow _ (by omega)
 show IntKind.i64.wrap ((BitVec.ofInt 64 (a:Int) &&& BitVec.ofInt 64 (b:Int)).toNat:Int)=_
 rw [BitVec.toNat_and,ofInt_i64 a (by omega),ofInt_i64 b (by omega),wrap_i64_nat _ (by omega)]
theorem i64_or_nat (a b:Nat) (ha:a<9223372036854775808) (hb:b<9223372036854775808):bits .or .i64 (a:Int) (b:Int)=((a ||| b:Nat):Int):=by
 have hx:a ||| b<2^63:=Nat.or_lt_two_pow (by omega) (by omega)
 show IntKind.i64.wrap ((BitVec.ofInt 64 (a:Int) ||| BitVec.ofInt 64 (b:Int)).toNat:Int)=_
 rw [BitVec.toNat_or,ofInt_i64 a (by omega),ofInt_i64 b (by omega),wrap_i64_nat _ (by omega)]
theorem bit_test (q:Nat) (hq:q<9223372036854775808) (x:Int) (hx:0≤x):bits .and .i64 ((q:Int)/2^x.toNat) 1=if q.testBit x.toNat then 1 else 0:=by
 have h1:((q:Int)/2^x.toNat)=((q/2^x.toNat:Nat):Int):=by simp
 have h2:q/2^x.toNat≤q:=Nat.div_le_self _ _
 rw [h1,show (1:Int)=((1:Nat):Int) from rfl,i64_and_nat _ _ (by omega) (by omega),Nat.and_one_is_mod,Nat.testBit_eq_decide_div_mod_eq]
 rcases Nat.mod_two_eq_zero_or_one (q/2^x.toNat) with h|h<;>simp [h]
theorem wrap64_pow (t:Nat) (ht:t<63):wrap64 (2^t)=((2^t:Nat):Int):=by
 have h:(2:Nat)^t<2^63:=Nat.pow_lt_pow_right (by omega) ht
 have h2:((2:Int)^t)=((2^t:Nat):Int):=by simp
 rw [h2]
 clear h2
 generalize (2:Nat)^t=p at h ⊢
 unfold wrap64
 omega
theorem or_pow (q:Nat) (hq:q<9223372036854775808) (t:Nat) (ht:t<63):bits .or .i64 (q:Int) (wrap64 (2^t))=((q ||| 2^t:Nat):Int):=by
 have h:(2:Nat)^t<2^63:=Nat.pow_lt_pow_right (by omega) ht
 rw [wrap64_pow t ht,i64_or_nat _ _ hq (by omega)]
theorem testBit_or_pow (q t j:Nat):(q ||| 2^t).testBit j=(q.testBit j||decide (j=t)):=by
 rw [Nat.testBit_or,Nat.testBit_two_pow]
 congr 1
 exact decide_eq_decide.2 ⟨fun h=>h.symm,fun h=>h.symm⟩
end
section
open Go.RowKit
def OwnF {α:Type} (f:α→Value) (E:TypeId) (w:World) (base:Nat) (v:Value) (xs:List α):Prop:=
 w.ownsRow base E 1 v xs.length (xs.map f)
abbrev OwnI:=OwnF (Value.int .i64) 3
section
variable {α:Type} {f:α→Value} {E:TypeId} {w w':World} {base base':Nat} {v:Value} {xs:List α}
theorem OwnF.nil_:OwnF f E w base (.slice none 0 0) []:=World.ownsRow_nil _ _ _ _
theorem OwnF.form (h:OwnF f E w base v xs):∃A n c,v = .slice A n c∧xs.length=n∧n≤c:=by
 rcases h with ⟨_,⟨rfl,h0⟩|⟨g,cap,cur,rfl,_,_,hc,_⟩⟩
 ·exact ⟨_,_,_,rfl,h0,Nat.le_refl _⟩
 ·exact ⟨_,_,_,rfl,rfl,hc⟩
theorem OwnF.len_le (h:OwnF f E w base v xs):xs.length≤9223372036854775807:=by
 rcases h with ⟨_,⟨rfl,h0⟩|⟨g,cap,cur,rfl,_,_,hc,hm,_⟩⟩
 ·omega
 ·unfold maxLen at hm;omega
theorem OwnF.below (h:OwnF f E w base v xs) (hb:Below w.heap.size w w'):OwnF f E w' base v xs:=own_below h hb
theorem OwnF.mono (h:OwnF f E w base v xs) (hb:base'≤base):OwnF f E w base' v xs:=own_mono h hb
theorem OwnF.drewN (h:OwnF f E w base v xs) (k:Nat):OwnF f E (w.drewN k) base v xs:=h
theorem OwnF.drew (h:OwnF f E w base v xs):OwnF f E w.drew base v xs:=h
theorem OwnF.alloc (h:OwnF f E w base v xs) (o:Obj):OwnF f E (w.alloc o) base v xs:=World.ownsRow.alloc h o
theorem OwnF.set_below (h:OwnF f E w base v xs) {a:Addr} (ha:a.block<base) (u:Value):OwnF f E (w.setCell a u) base v xs:=ownsRow_setCell_below h ha u
theorem OwnF.lt (h:OwnF f E w base v xs):∀k,v.ownBlock=some k→base≤k∧k<w.heap.size:=World.ownsRow.lt h
theorem OwnF.kept {row:Option Nat} (h:OwnF f E w base v xs) (hg:w.grownBy w' row) (hne:v.ownBlock=none∨v.ownBlock≠row):OwnF f E w' base v xs:=World.ownsRow.kept h hg hne
theorem OwnF.belowB {B:Nat} (h:OwnF f E w base v xs) (hb:Below B w w') (hB:∀k,v.ownBlock=some k→k<B):OwnF f E w' base v xs:=by
 rcases h with ⟨hl,h|⟨g,cap,cur,rfl,hg,hh,hr⟩⟩
 ·exact ⟨hl,.inl h⟩
 ·exact ⟨hl,.inr ⟨g,cap,cur,rfl,hg,by rw [hb.block g (hB g rfl)];exact hh,hr⟩⟩
theorem OwnF.at_ {g n cap:Nat} (h:OwnF f E w base (.slice (some ⟨g,0,none⟩) n cap) xs) (k:Nat) (hk:k<xs.length) :
  w.cell? ⟨g,k,none⟩=(xs[k]?).map f∧w.frozen? ⟨g,k,none⟩=false:=by
 obtain ⟨A,n',c',hv,hn,_⟩:=h.form
 injection hv with _ h2 _
 subst h2
 unfold OwnF at h
 rw [hn] at h
 exact ⟨by rw [World.ownsRow.cellAt h k (by omega),List.getElem?_map],World.ownsRow.frozenAt h k⟩
theorem OwnF.set_ {g n cap:Nat} (h:OwnF f E w base (.slice (some ⟨g,0,none⟩) n cap) xs) (k:Nat) (x:α) :
  OwnF f E (w.setCell ⟨g,k,none⟩ (f x)) base (.slice (some ⟨g,0,none⟩) n cap) (xs.set k x):=by
 obtain ⟨A,n',c',hv,hn,_⟩:=h.form
 injection hv with _ h2 _
 subst h2
 unfold OwnF at h ⊢
 rw [hn] at h
 have:=(World.ownsRow.stored h k (f x)).1
 rw [List.length_set,hn,List.map_set]
 exact this
theorem OwnF.head (h:OwnF f E w base v xs) (hn:0<xs.length):∃g c,v = .slice (some ⟨g,0,none⟩) xs.length c∧base≤g∧g<w.heap.size∧xs.length≤c:=by
 rcases h with ⟨_,⟨rfl,h0⟩|⟨g,cap,cur,rfl,hg,hh,hc,_⟩⟩
 ·omega
 ·refine ⟨g,cap,rfl,hg,?_,hc⟩
  rcases Nat.lt_or_ge g w.heap.size with hlt|hge
  ·exact hlt
  ·rw [Array.getElem?_eq_none hge] at hh;cases hh
end
theorem OwnF.rows {α:Type} {f:α→Value} {d:α} {E:TypeId} {w:World} {base n c:Nat} {A:Option Addr} {zs:List α} (h:OwnF f E w base (.slice A n c) zs):RowF f d w w.heap.size A zs:=fun hn=>by
 obtain ⟨g,c',hv,_,hlt,_⟩:=h.head hn
 injection hv with h1 h2 h3
 subst h1
 subst h2
 refine ⟨g,0,rfl,hlt,fun j hj=>?_⟩
 have:=(OwnF.at_ h j hj).1
 rw [List.getElem?_eq_getElem hj] at this ⊢
 rw [Nat.zero_add]
 exact this
theorem OwnI.ints {w:World} {base n c:Nat} {A:Option Addr} {zs:List Int} (h:OwnI w base (.slice A n c) zs):Ints w w.heap.size A zs:=OwnF.rows h
section
variable {ops:Array Oper} {rest:List Oper} {o:Oper} {a:Act} {Q:Exit→Act→World→Prop} {P:Program}
theorem wp_make {α:Type} {f:α→Value} {T E:TypeId} {i:TypeInfo} {z:α} {bytes:Nat} (hT:P.underlying T=some (.slice E)) (hi:P.info? E=some i) (hz0:i.zero=some (f z)) (hz1:i.size=1) (hz2:i.bytes=bytes)
  (hone:(f z).cells = #[f z]) (w:World) (hg:o.guard=none) (l c:Operand) (hop:o.op=Op.makeSlice T l c) (L:Int) (n:Nat) (hl:a.eval l = .int .i64 L) (hc:a.eval c = .int .i64 L) (hL:L=(n:Int)) (hn:bytes*n≤281474976710656) (h63:n≤maxLen)
  (h:∀w',OwnF f E w' w.heap.size (.slice (some ⟨w.heap.size,0,none⟩) n n) (List.replicate n z)→Below w.heap.size w w'→w.heap.size<w'.heap.size→wpList P ops Q rest (a.put o.dst (.slice (some ⟨w.heap.size,0,none⟩) n n)) w') :
  wpList P ops Q (o::rest) a w:=
 wpList_make_full w hg l c T hop w.heap.size E i (f z) 1 hT hi hz0 hz1 .i64 .i64 L L n hl hc hL hL (by rw [hz2];exact hn) h63 (Nat.le_refl _) fun w' hown hgr=>by
  have h1:OwnF f E w' w.heap.size (.slice (some ⟨w.heap.size,0,none⟩) n n) (List.replicate n z):=by
   unfold OwnF
   rw [List.length_replicate,List.map_replicate]
   rw [hone,Nat.mul_one,toList_madeCells_one] at hown
   exact hown
  refine h w' h1 ((Below.refl _ _).grown hgr (Nat.le_refl _) (by simp)) ?_
  exact (h1.lt w.heap.size rfl).2
theorem wp_app1 {α:Type} {f:α→Value} {T E:TypeId} {i:TypeInfo} {z:Value} {bytes:Nat} (hT:P.underlying T=some (.slice E)) (hi:P.info? E=some i) (hz0:i.zero=some z) (hz1:i.size=1) (hz2:i.bytes=bytes)
  (hzc:z.cells.size=1) (hbytes:bytes≤4096)
  (W:World) (hg:o.guard=none) (s x:Operand) (hop:o.op = .call {callee:= .builtin .append,args:= #[s,x],argTypes:= #[T,T]})
  (base:Nat) (v:Value) (xs:List α) (e:α) (c:Nat) (hone:(f e).oneCell'=true)
  (hown:OwnF f E W base v xs) (hbase:base≤W.heap.size) (hlen:xs.length≤34359738366) {H:Nat} (hs:a.eval s=v) (hx:a.eval x = .slice (some ⟨H,0,none⟩) 1 c) (hH:W.heap.size=H)
  (h:∀v' w',OwnF f E w' base v' (xs++[e])→Below base W w'→W.heap.size<w'.heap.size→W.grownBy w' v.ownBlock→(∀ k,v'.ownBlock=some k→v.ownBlock=some k∨W.heap.size≤k)→wpList P ops Q rest (a.put o.dst v') w') :
  wpList P ops Q (o::rest) a (W.alloc (.cells #[f e] E)):=
 wpList_plain hg fun K hK=>by
  subst hH
  obtain ⟨v',w',hrun,hown',hgr,_,hat⟩:=run_append_own_at (P:=P) (W.alloc (.cells #[f e] E)) base T o.type E i z 1 bytes hT hi hz0 hz1 hz2 hzc (by decide) v xs.length (xs.map f) (World.ownsRow.alloc hown _)
   ⟨W.heap.size,0,none⟩ 1 c [f e] rfl (fun j u hj=>by
    match j,hj with
    | 0,hj=>simp at hj;subst hj;rw [Addr.add_lit];exact World.cell?_alloc_at _ _ _ _ rfl)
   (fun u hu=>by simp at hu;subst hu;exact hone)
   (by unfold maxLen;omega) (by have:(xs.length+1)*bytes≤34359738367*4096:=Nat.mul_le_mul (by omega) hbytes;omega) (by simp;omega)
  unfold Oper.wp execOp
  simp only [hop,resolve,invoke,builtin,Sem.run_bind,Sem.run_pure,Result.andThen_ok,List.map_toArray,List.map_cons,List.map_nil,hs,hx,hrun]
  have hb:Below base W w':=((Below.refl _ _).alloc hbase _).grown hgr (by simp;omega) (fun k hk=>(hown.lt k hk).1)
  have hs:W.heap.size<w'.heap.size:=by have:=hgr.size;simp at this;omega
  refine hK _ _ (h v' w' ?_ hb hs ⟨hgr.os,hgr.tape,hgr.output,by omega,fun k hk hne=>?_⟩ (fun k hk=>?_))
  ·unfold OwnF
   simpa using hown'
  ·rw [hgr.block k (by simp;omega) hne,Below.heap_alloc _ _ _ hk]
  ·rcases hat with h|h
   ·exact .inl (by rw [← h];exact hk)
   ·rw [h] at hk;injection hk with hk;simp at hk;right;omega
end
def Src (w:World) (A:Option Addr) (m:Nat) (us:List Value):Prop:=
 us.length=m∧(0<m→∃ad,A=some ad∧∀j u,us[j]? =some u→w.cell? (ad.add j)=some u)
theorem RowF.src {α:Type} {f:α→Value} {d:α} {w:World} {B n:Nat} {A:Option Addr} {zs:List α} (h:RowF f d w B A zs) (hn:zs.length=n):Src w A n (zs.map f):=by
 refine ⟨by rw [List.length_map,hn],fun h0=>?_⟩
 obtain ⟨b,off,rfl,_,hc⟩:=h (by omega)
 refine ⟨_,rfl,fun j u hu=>?_⟩
 rw [List.getElem?_map] at hu
 have hj:j<zs.length:=by
  rcases Nat.lt_or_ge j zs.length with h|h
  ·exact h
  ·rw [List.getElem?_eq_none h] at hu;cases hu
 rw [Addr.add_lit,hc j hj]
 rw [List.getElem?_eq_getElem hj] at hu ⊢
 simpa using hu
theorem Src.alloc {w:World} {A:Option Addr} {m:Nat} {us:List Value} (h:Src w A m us) (o:Obj):Src (w.alloc o) A m us:=
 ⟨h.1,fun h0=>by
  obtain ⟨ad,e,hc⟩:=h.2 h0
  refine ⟨ad,e,fun j u hu=>?_⟩
  have h1:=hc j u hu
  rw [World.cell?_alloc_lt w o _ ?_]
  ·exact h1
  ·rcases Nat.lt_or_ge (ad.add j).block w.heap.size with h|h
   ·exact h
   ·simp [World.cell?,Array.getElem?_eq_none h] at h1⟩
theorem run_append_src {P:Program} (w:World) (base:Nat) (t ty e:TypeId) (i:TypeInfo) (z:Value) (bytes:Nat) (ht:P.underlying t=some (.slice e)) (hi:P.info? e=some i) (hz:i.zero=some z)
  (hsize:i.size=1) (hby:i.bytes=bytes) (hzs:z.cells.size=1)
  (v:Value) (n:Nat) (xs:List Value) (hown:w.ownsRow base e 1 v n xs)
  (A:Option Addr) (m c:Nat) (us:List Value) (hr:Src w A m us) (h1:∀u∈us,u.oneCell'=true)
  (h63:n+m≤maxLen) (hbytes:(n+m)*bytes≤140737488355328) (hbase:base≤w.heap.size) :
  ∃v' w',(Builtin.append_ #[t,t] ty #[v,.slice A m c]).run P w = .ok v' w'∧w'.ownsRow base e 1 v' (n+m) (xs++us)∧w.grownBy w' v.ownBlock∧(∀ k,v'.ownBlock=some k→v.ownBlock=some k∨w.heap.size≤k):=by
 rcases A with _|ad
 ·have hm:m=0:=by
   rcases Nat.eq_zero_or_pos m with h0|h0
   ·exact h0
   ·obtain ⟨ad,h,_⟩:=hr.2 h0
    cases h
  subst hm
  have hn:us=[]:=List.eq_nil_of_length_eq_zero hr.1
  subst hn
  refine ⟨v,w,?_,by simpa using hown,World.grownBy.refl w _,fun k hk=> .inl hk⟩
  rcases hown.2 with ⟨rfl,rfl⟩|⟨g,cap,cur,rfl,_,_,hnc,_⟩
  ·simp [Builtin.append_,run_underlying ht,sizeOf,typeInfo,hi,Builtin.lenOf,Builtin.firstCells]
  ·simp [Builtin.append_,run_underlying ht,sizeOf,typeInfo,hi,Builtin.lenOf,Builtin.firstCells,hnc,storeCells]
 ·have hcells:∀j u,us[j]? =some u→w.cell? (ad.add j)=some u:=by
   intro j u hu
   rcases Nat.eq_zero_or_pos m with h0|h0
   ·subst h0
    have hn:us=[]:=List.eq_nil_of_length_eq_zero hr.1
    subst hn
    simp at hu
   ·obtain ⟨ad',h,hc⟩:=hr.2 h0
    injection h with h
    subst h
    exact hc j u hu
  obtain ⟨v',w',hrun,h2,h3,_,hat⟩:=run_append_own_at (P:=P) w base t ty e i z 1 bytes ht hi hz hsize hby hzs (by decide) v n xs hown ad m c us (by rw [hr.1,Nat.mul_one]) hcells h1 h63 hbytes hbase
  refine ⟨v',w',hrun,h2,h3,fun k hk=>?_⟩
  rcases hat with h|h
  ·exact .inl (by rw [← h];exact hk)
  ·rw [h] at hk;injection hk with hk;right;omega
section
variable {ops:Array Oper} {rest:List Oper} {o:Oper} {a:Act} {Q:Exit→Act→World→Prop} {P:Program}
theorem wp_appN {α:Type} {f:α→Value} {T E:TypeId} {i:TypeInfo} {z:Value} {bytes:Nat} (hT:P.underlying T=some (.slice E)) (hi:P.info? E=some i) (hz0:i.zero=some z) (hz1:i.size=1) (hz2:i.bytes=bytes)
  (hzc:z.cells.size=1) (hbytes:bytes≤4096)
  (W:World) (hg:o.guard=none) (s x:Operand) (hop:o.op = .call {callee:= .builtin .append,args:= #[s,x],argTypes:= #[T,T]})
  (base:Nat) (v:Value) (xs ys:List α) (A:Option Addr) (m c:Nat) (hone:∀e,(f e).oneCell'=true)
  (hown:OwnF f E W base v xs) (hsrc:Src W A m (ys.map f)) (hbase:base≤W.heap.size) (hlen:xs.length+m≤34359738367) (hs:a.eval s=v) (hx:a.eval x = .slice A m c)
  (h:∀v' w',OwnF f E w' base v' (xs++ys)→Below base W w'→W.heap.size≤w'.heap.size→W.grownBy w' v.ownBlock→(∀ k,v'.ownBlock=some k→v.ownBlock=some k∨W.heap.size≤k)→wpList P ops Q rest (a.put o.dst v') w') :
  wpList P ops Q (o::rest) a W:=
 wpList_plain hg fun K hK=>by
  obtain ⟨v',w',hrun,h2,h3,h4⟩:=run_append_src (P:=P) W base T o.type E i z bytes hT hi hz0 hz1 hz2 hzc v xs.length (xs.map f) hown A m c (ys.map f) hsrc (fun u hu=>by
   obtain ⟨e,_,rfl⟩:=List.mem_map.1 hu;exact hone e) (by unfold maxLen;omega) (by have:(xs.length+m)*bytes≤34359738367*4096:=Nat.mul_le_mul (by omega) hbytes;omega) hbase
  unfold Oper.wp execOp
  simp only [hop,resolve,invoke,builtin,Sem.run_bind,Sem.run_pure,Result.andThen_ok,List.map_toArray,List.map_cons,List.map_nil,hs,hx,hrun]
  refine hK _ _ (h v' w' ?_ ((Below.refl _ _).grown h3 hbase (fun k hk=>(hown.lt k hk).1)) h3.size h3 h4)
  have hm:ys.length=m:=by have:=hsrc.1;rwa [List.length_map] at this
  unfold OwnF
  rw [List.length_append,hm,List.map_append]
  exact h2
end
end
section
open Go.RowKit
structure Chg (F:List Nat) (w w':World):Prop where
 os:w'.os=w.os
 tape:w'.tape=w.tape
 output:w'.output=w.output
 size:w.heap.size≤w'.heap.size
 block:∀k,k<w.heap.size→¬k∈F→w'.heap[k]? =w.heap[k]?
section
variable {F G:List Nat} {w w' w'':World}
theorem Chg.refl (F:List Nat) (w:World):Chg F w w:=⟨rfl,rfl,rfl,Nat.le_refl _,fun _ _ _=>rfl⟩
theorem Chg.trans (h:Chg F w w') (k:Chg G w' w'') (hG:∀x∈G,x∈F∨w.heap.size≤x):Chg F w w'':=by
 refine ⟨k.os.trans h.os,k.tape.trans h.tape,k.output.trans h.output,Nat.le_trans h.size k.size,fun i hi hn=>?_⟩
 refine (k.block i (Nat.lt_of_lt_of_le hi h.size) (fun hm=>?_)).trans (h.block i hi hn)
 rcases hG i hm with h1|h1
 ·exact hn h1
 ·omega
theorem Chg.mono (h:Chg F w w') (hF:∀x∈F,x∈G∨w.heap.size≤x):Chg G w w':=by
 refine ⟨h.os,h.tape,h.output,h.size,fun i hi hn=>h.block i hi (fun hm=>?_)⟩
 rcases hF i hm with h1|h1
 ·exact hn h1
 ·omega
theorem chg_of_below (h:Below w.heap.size w w'):Chg F w w':=⟨h.os,h.tape,h.output,h.size,fun k hk _=>h.block k hk⟩
theorem Chg.below {B:Nat} (h:Chg F w w') (hB:B≤w.heap.size) (hF:∀x∈F,B≤x):Below B w w':=
 ⟨h.os,h.tape,h.output,h.size,fun k hk=>h.block k (by omega) (fun hm=>by have:=hF k hm;omega)⟩
theorem Chg.drew (h:Chg F w w'):Chg F w w'.drew:=⟨h.os,h.tape,h.output,h.size,h.block⟩
theorem Chg.drewN (h:Chg F w w') (n:Nat):Chg F w (w'.drewN n):=⟨h.os,h.tape,h.output,h.size,h.block⟩
theorem Chg.setCell (h:Chg F w w') {p:Addr} (hp:p.block∈F∨w.heap.size≤p.block) (u:Value):Chg F w (w'.setCell p u):=
 ⟨h.os,h.tape,h.output,by simpa [World.setCell] using h.size,fun i hi hn=>(Below.heap_setCell w' p u i (by
  rintro rfl
  rcases hp with h1|h1
  ·exact hn h1
  ·omega)).trans (h.block i hi hn)⟩
theorem Chg.alloc (h:Chg F w w') (o:Obj):Chg F w (w'.alloc o):=
 ⟨h.os,h.tape,h.output,Nat.le_trans h.size (by simp),fun i hi hn=>(Below.heap_alloc w' o i (Nat.lt_of_lt_of_le hi h.size)).trans (h.block i hi hn)⟩
theorem Chg.cell (h:Chg F w w') {p:Addr} (hp:p.block<w.heap.size) (hn:¬p.block∈F):w'.cell? p=w.cell? p:=World.cell?_of_block (w:=w) (h.block p.block hp hn)
end
def Blk (w:World) (g:Nat) (t:TypeId) (cs:Array Value):Prop:=w.heap[g]? =some (.cells cs t (0,0))
section
variable {w w':World} {g:Nat} {t:TypeId} {cs:Array Value} {F:List Nat}
theorem Blk.lt (h:Blk w g t cs):g<w.heap.size:=by
 rcases Nat.lt_or_ge g w.heap.size with hlt|hge
 ·exact hlt
 ·unfold Blk at h;rw [Array.getElem?_eq_none hge] at h;cases h
theorem Blk.cell (h:Blk w g t cs) (i:Nat):w.cell? ⟨g,i,none⟩=cs[i]? :=cell_of_row w g i cs t (0,0) h
theorem Blk.frozen (h:Blk w g t cs) (i:Nat):w.frozen? ⟨g,i,none⟩=false:=by
 unfold Blk at h
 simp [World.frozen?,h]
theorem Blk.new (w:World) (t:TypeId) (cs:Array Value):Blk (w.alloc (.cells cs t)) w.heap.size t cs:=heap_alloc_new w _
theorem Blk.alloc (h:Blk w g t cs) (o:Obj):Blk (w.alloc o) g t cs:=(Below.heap_alloc w o g h.lt).trans h
theorem Blk.set_ (h:Blk w g t cs) (i:Nat) (u:Value):Blk (w.setCell ⟨g,i,none⟩ u) g t (cs.setIfInBounds i u):=by
 unfold Blk at h ⊢
 simp [World.setCell,Array.getElem?_modify,h]
theorem Blk.far (h:Blk w g t cs) {p:Addr} (hp:g≠p.block) (u:Value):Blk (w.setCell p u) g t cs:=(Below.heap_setCell w p u g hp).trans h
theorem Blk.chg (h:Blk w g t cs) (hb:Chg F w w') (hg:¬g∈F):Blk w' g t cs:=(hb.block g h.lt hg).trans h
end
def blk (v:Value):List Nat:=v.ownBlock.toList
theorem mem_blk {v:Value} {k:Nat}:k∈blk v↔v.ownBlock=some k:=by
 unfold blk
 cases v.ownBlock<;>simp [eq_comm]
section
variable {α:Type} {f:α→Value} {E:TypeId} {w w':World} {base:Nat} {v:Value} {xs:List α} {F:List Nat}
theorem OwnF.chg (h:OwnF f E w base v xs) (hb:Chg F w w') (hF:∀k∈blk v,¬k∈F):OwnF f E w' base v xs:=by
 rcases h with ⟨hl,h|⟨g,cap,cur,rfl,hg,hh,hr⟩⟩
 ·exact ⟨hl,.inl h⟩
 ·refine ⟨hl,.inr ⟨g,cap,cur,rfl,hg,?_,hr⟩⟩
  rw [hb.block g (by
   rcases Nat.lt_or_ge g w.heap.size with hlt|hge
   ·exact hlt
   ·rw [Array.getElem?_eq_none hge] at hh;cases hh) (hF g (mem_blk.2 rfl))]
  exact hh
theorem OwnF.blk_lt (h:OwnF f E w base v xs):∀k∈blk v,k<w.heap.size:=fun k hk=>(h.lt k (mem_blk.1 hk)).2
theorem OwnF.blk_ge (h:OwnF f E w base v xs):∀k∈blk v,base≤k:=fun k hk=>(h.lt k (mem_blk.1 hk)).1
theorem OwnF.zero (h:OwnF f E w base v xs):OwnF f E w 0 v xs:=h.mono (Nat.zero_le _)
end
theorem Blk.onB {w w':World} {g:Nat} {t:TypeId} {cs:Array Value} (h:Blk w g t cs) (hb:Below w.heap.size w w'):Blk w' g t cs:=h.chg (F:=[]) (chg_of_below hb) (by simp)
end
section
open Go.RowKit
def RowS {α:Type} (s:Nat) (enc:α→List Value) (w:World) (B:Nat) (A:Option Addr) (xs:List α):Prop:=
 0<xs.length→∃b off,A=some ⟨b,off,none⟩∧b<B∧∀i x,xs[i]? =some x→w.rangeAt b (off+i*s) (enc x)
def OwnS {α:Type} (s:Nat) (enc:α→List Value) (E:TypeId) (w:World) (base:Nat) (v:Value) (xs:List α):Prop:=
 w.ownsRow base E s v xs.length (xs.flatMap enc)
theorem rangeAt_keep {w w':World} {b o:Nat} {cs:List Value} (h:w.rangeAt b o cs) (hk:w'.heap[b]? =w.heap[b]?):w'.rangeAt b o cs:=fun j v hv=>
 (World.cell?_of_block (w:=w) hk).trans (h j v hv)
section
variable {α:Type} {s:Nat} {enc:α→List Value} {w w':World} {B B':Nat} {A:Option Addr} {zs:List α}
theorem RowS.nil_:RowS s enc w B A []:=fun h=>absurd h (by simp)
theorem RowS.keep (h:RowS s enc w B A zs) (hk:∀k,k<B→w'.heap[k]? =w.heap[k]?):RowS s enc w' B A zs:=fun hn=>by
 obtain ⟨b,off,e,hb,hc⟩:=h hn
 exact ⟨b,off,e,hb,fun i x hx=>rangeAt_keep (hc i x hx) (hk b hb)⟩
theorem RowS.more (h:RowS s enc w B A zs) (hB:B≤B'):RowS s enc w B' A zs:=fun hn=>by
 obtain ⟨b,off,e,hb,hc⟩:=h hn
 exact ⟨b,off,e,by omega,hc⟩
theorem RowS.below' (h:RowS s enc w B A zs) (hb:Below B w w'):RowS s enc w' B A zs:=h.keep fun k hk=>hb.block k hk
theorem RowS.on (h:RowS s enc w w.heap.size A zs) (hb:Below w.heap.size w w'):RowS s enc w' w'.heap.size A zs:=(h.below' hb).more hb.size
end
theorem flat_get {α:Type} {s:Nat} {enc:α→List Value} (hs:∀x,(enc x).length=s):∀(xs:List α) (i:Nat) (x:α),xs[i]? =some x→∀j v,(enc x)[j]? =some v→(xs.flatMap enc)[i*s+j]? =some v
 | [],i,x,h,_,_,_=>by simp at h
 | y::ys,0,x,h,j,v,hv=>by
  simp at h
  subst h
  rw [List.flatMap_cons,Nat.zero_mul,Nat.zero_add,List.getElem?_append_left (List.getElem?_eq_some_iff.1 hv).1]
  exact hv
 | y::ys,i+1,x,h,j,v,hv=>by
  rw [List.flatMap_cons,List.getElem?_append_right (by rw [hs,Nat.succ_mul];omega),hs]
  have:=flat_get hs ys i x (by simpa using h) j v hv
  rwa [show (i+1)*s+j-s=i*s+j by rw [Nat.succ_mul];omega]
theorem flat_len {α:Type} {s:Nat} {enc:α→List Value} (hs:∀x,(enc x).length=s) (xs:List α):(xs.flatMap enc).length=xs.length*s:=by
 induction xs with
 | nil=>simp
 | cons y ys ih=>rw [List.flatMap_cons,List.length_append,hs,ih,List.length_cons,Nat.succ_mul];omega
theorem flat_set {α:Type} {s:Nat} {enc:α→List Value} (hs:∀x,(enc x).length=s) (x:α):∀(xs:List α) (i:Nat),i<xs.length→∀k,((xs.set i x).flatMap enc)[k]? =if i*s≤k∧k<i*s+s then (enc x)[k-i*s]? else (xs.flatMap enc)[k]?
 | [],i,h,_=>by simp at h
 | y::ys,0,_,k=>by
  rw [List.set_cons_zero,List.flatMap_cons,List.flatMap_cons,Nat.zero_mul,Nat.zero_add]
  rcases Nat.lt_or_ge k s with hk|hk
  ·rw [if_pos ⟨Nat.zero_le _,hk⟩,List.getElem?_append_left (by rw [hs];exact hk),Nat.sub_zero]
  ·rw [if_neg (by omega),List.getElem?_append_right (by rw [hs];exact hk),List.getElem?_append_right (by rw [hs];exact hk),hs,hs]
 | y::ys,i+1,h,k=>by
  rw [List.set_cons_succ,List.flatMap_cons,List.flatMap_cons]
  have hm:(i+1)*s=i*s+s:=Nat.succ_mul i s
  rcases Nat.lt_or_ge k s with hk|hk
  ·rw [if_neg (by omega),List.getElem?_append_left (by rw [hs];exact hk),List.getElem?_append_left (by rw [hs];exact hk)]
  ·rw [List.getElem?_append_right (by rw [hs];exact hk),List.getElem?_append_right (by rw [hs];exact hk),hs,flat_set hs x ys i (by simpa using h)]
   have h1:(i*s≤k-s∧k-s<i*s+s)↔((i+1)*s≤k∧k<(i+1)*s+s):=by omega
   have h2:k-s-i*s=k-(i+1)*s:=by omega
   simp only [h1,h2]
theorem setCells_block {b:Nat} {E:TypeId} {fr:Nat×Nat}:∀(vs:List Value) (o:Nat) (w:World) (cur:Array Value),w.heap[b]? =some (.cells cur E fr)→o+vs.length≤cur.size→
  ∃cur',(w.setCells b o vs).heap[b]? =some (.cells cur' E fr)∧cur'.size=cur.size∧∀k,cur'[k]? =if o≤k∧k<o+vs.length then vs[k-o]? else cur[k]?
 | [],o,w,cur,h,_=>⟨cur,h,rfl,fun k=>by rw [if_neg (by simp)]⟩
 | v::r,o,w,cur,h,hle=>by
  rw [List.length_cons] at hle
  have h1:(w.setCell ⟨b,o,none⟩ v).heap[b]? =some (.cells (cur.setIfInBounds o v) E fr):=by simp [World.setCell,Array.getElem?_modify,h]
  obtain ⟨cur',h2,h3,h4⟩:=setCells_block r (o+1) _ _ h1 (by simp;omega)
  refine ⟨cur',h2,by simpa using h3,fun k=>?_⟩
  rw [h4 k,List.length_cons]
  by_cases hk:o+1≤k∧k<o+1+r.length
  ·rw [if_pos hk,if_pos (by omega),show k-o=(k-(o+1))+1 by omega,List.getElem?_cons_succ]
  ·rw [if_neg hk]
   by_cases hko:k=o
   ·subst hko
    rw [if_pos (by omega),Nat.sub_self,Array.getElem?_setIfInBounds_self_of_lt (by omega)]
    rfl
   ·rw [if_neg (by omega),Array.getElem?_setIfInBounds_ne (by omega)]
theorem setCells_other {b k:Nat} (hk:k≠b):∀(vs:List Value) (o:Nat) (w:World),(w.setCells b o vs).heap[k]? =w.heap[k]?
 | [],_,_=>rfl
 | v::r,o,w=>by rw [World.setCells,setCells_other hk r];exact Below.heap_setCell w _ v k hk
theorem setCells_size (b:Nat):∀(vs:List Value) (o:Nat) (w:World),(w.setCells b o vs).heap.size=w.heap.size
 | [],_,_=>rfl
 | v::r,o,w=>by rw [World.setCells,setCells_size b r];simp [World.setCell]
theorem setCells_rest (b:Nat):∀(vs:List Value) (o:Nat) (w:World),(w.setCells b o vs).os=w.os∧(w.setCells b o vs).tape=w.tape∧(w.setCells b o vs).output=w.output
 | [],_,_=>⟨rfl,rfl,rfl⟩
 | v::r,o,w=>by
  rw [World.setCells]
  exact setCells_rest b r (o+1) (w.setCell ⟨b,o,none⟩ v)
theorem Chg.setCells {F:List Nat} {w w':World} (h:Chg F w w') {b:Nat} (hp:b∈F∨w.heap.size≤b) (o:Nat) (vs:List Value):Chg F w (w'.setCells b o vs):=by
 obtain ⟨h1,h2,h3⟩:=setCells_rest b vs o w'
 refine ⟨h1.trans h.os,h2.trans h.tape,h3.trans h.output,by rw [setCells_size];exact h.size,fun i hi hn=>?_⟩
 rw [setCells_other (by
  rintro rfl
  rcases hp with hp|hp
  ·exact hn hp
  ·omega)]
 exact h.block i hi hn
section
variable {α:Type} {s:Nat} {enc:α→List Value} {E:TypeId} {w w':World} {base base':Nat} {v:Value} {xs:List α} {F:List Nat}
theorem OwnS.nil_:OwnS s enc E w base (.slice none 0 0) []:=World.ownsRow_nil _ _ _ _
theorem OwnS.form (h:OwnS s enc E w base v xs):∃A n c,v = .slice A n c∧xs.length=n∧n≤c:=by
 rcases h with ⟨_,⟨rfl,h0⟩|⟨g,cap,cur,rfl,_,_,hc,_⟩⟩
 ·exact ⟨_,_,_,rfl,h0,Nat.le_refl _⟩
 ·exact ⟨_,_,_,rfl,rfl,hc⟩
theorem OwnS.chg (h:OwnS s enc E w base v xs) (hb:Chg F w w') (hF:∀k∈blk v,¬k∈F):OwnS s enc E w' base v xs:=by
 rcases h with ⟨hl,h|⟨g,cap,cur,rfl,hg,hh,hr⟩⟩
 ·exact ⟨hl,.inl h⟩
 ·refine ⟨hl,.inr ⟨g,cap,cur,rfl,hg,?_,hr⟩⟩
  rw [hb.block g (by
   rcases Nat.lt_or_ge g w.heap.size with hlt|hge
   ·exact hlt
   ·rw [Array.getElem?_eq_none hge] at hh;cases hh) (hF g (mem_blk.2 rfl))]
  exact hh
theorem OwnS.mono (h:OwnS s enc E w base v xs) (hb:base'≤base):OwnS s enc E w base' v xs:=own_mono h hb
theorem OwnS.lt (h:OwnS s enc E w base v xs):∀k,v.ownBlock=some k→base≤k∧k<w.heap.size:=World.ownsRow.lt h
theorem OwnS.blk_lt (h:OwnS s enc E w base v xs):∀k∈blk v,k<w.heap.size:=fun k hk=>(h.lt k (mem_blk.1 hk)).2
theorem OwnS.blk_ge (h:OwnS s enc E w base v xs):∀k∈blk v,base≤k:=fun k hk=>(h.lt k (mem_blk.1 hk)).1
theorem OwnS.alloc (h:OwnS s enc E w base v xs) (o:Obj):OwnS s enc E (w.alloc o) base v xs:=World.ownsRow.alloc h o
theorem OwnS.drew (h:OwnS s enc E w base v xs):OwnS s enc E w.drew base v xs:=h
theorem OwnS.head (h:OwnS s enc E w base v xs) (hn:0<xs.length):∃g c,v = .slice (some ⟨g,0,none⟩) xs.length c∧base≤g∧g<w.heap.size∧xs.length≤c:=by
 rcases h with ⟨_,⟨rfl,h0⟩|⟨g,cap,cur,rfl,hg,hh,hc,_⟩⟩
 ·omega
 ·refine ⟨g,cap,rfl,hg,?_,hc⟩
  rcases Nat.lt_or_ge g w.heap.size with hlt|hge
  ·exact hlt
  ·rw [Array.getElem?_eq_none hge] at hh;cases hh
theorem OwnS.at_ (hs:∀x,(enc x).length=s) {g n c:Nat} (h:OwnS s enc E w base (.slice (some ⟨g,0,none⟩) n c) xs) (i:Nat) (x:α) (hx:xs[i]? =some x):w.rangeAt g (i*s) (enc x)∧w.there g (i*s) s:=by
 rcases h with ⟨hl,⟨hv,h0⟩|⟨g',cap,cur,hv,hg,hh,hc,_,hsz,ht⟩⟩
 ·cases hv
 ·injection hv with h1 h2 h3
  injection h1 with h1
  injection h1 with h1
  subst h1
  have hi:i<xs.length:=(List.getElem?_eq_some_iff.1 hx).1
  have hcell:∀j v,(enc x)[j]? =some v→w.cell? ⟨g,i*s+j,none⟩=some v:=fun j v hv=>by
   have h5:=flat_get hs xs i x hx j v hv
   rw [← ht,List.getElem?_take] at h5
   rw [cell_of_row w g (i*s+j) cur E (0,0) hh]
   split at h5
   ·simpa using h5
   ·cases h5
  refine ⟨hcell,fun j hj=>⟨?_,?_⟩⟩
  ·have:(enc x)[j]? =some ((enc x)[j]'(by rw [hs];exact hj)):=List.getElem?_eq_getElem _
   rw [hcell j _ this]
   rfl
  ·simp [World.frozen?,hh]
theorem OwnS.set_ (hs:∀x,(enc x).length=s) {g n c:Nat} (h:OwnS s enc E w base (.slice (some ⟨g,0,none⟩) n c) xs) (i:Nat) (hi:i<xs.length) (x:α):OwnS s enc E (w.setCells g (i*s) (enc x)) base (.slice (some ⟨g,0,none⟩) n c) (xs.set i x):=by
 rcases h with ⟨hl,⟨hv,h0⟩|⟨g',cap,cur,hv,hg,hh,hc,hm,hsz,ht⟩⟩
 ·cases hv
 ·injection hv with h1 h2 h3
  injection h1 with h1
  injection h1 with h1
  subst h1
  subst h3
  have hb:i*s+s≤xs.length*s:=by rw [← Nat.succ_mul];exact Nat.mul_le_mul_right _ hi
  have hb2:xs.length*s≤c*s:=Nat.mul_le_mul_right _ hc
  obtain ⟨cur',e1,e2,e3⟩:=setCells_block (enc x) (i*s) w cur hh (by rw [hs];omega)
  refine ⟨by rw [flat_len hs],.inr ⟨g,c,cur',by rw [h2,List.length_set],hg,e1,by rw [List.length_set];exact hc,hm,by rw [e2];exact hsz,?_⟩⟩
  apply List.ext_getElem?
  intro k
  rw [flat_set hs x xs i hi k,List.getElem?_take,List.length_set,Array.getElem?_toList,e3 k,hs,←ht,List.getElem?_take,Array.getElem?_toList]
  by_cases hk:i*s≤k∧k<i*s+s
  ·rw [if_pos hk,if_pos hk,if_pos (by omega)]
  ·rw [if_neg hk,if_neg hk,Array.getElem?_toList]
theorem OwnS.rows (hs:∀x,(enc x).length=s) {A:Option Addr} {n c:Nat} (h:OwnS s enc E w base (.slice A n c) xs):RowS s enc w w.heap.size A xs:=fun hn=>by
 obtain ⟨g,c',hv,_,hlt,_⟩:=h.head hn
 injection hv with h1 h2 h3
 subst h1
 subst h2
 refine ⟨g,0,rfl,hlt,fun i x hx=>?_⟩
 rw [Nat.zero_add]
 exact (OwnS.at_ hs h i x hx).1
end
theorem toList_madeCells {α:Type} {s:Nat} {enc:α→List Value} (hs:∀x,(enc x).length=s) (h0:0<s) (z:α) (zs:Array Value) (hz:zs.toList=enc z) (n:Nat):(madeCells zs (n*s)).toList=(List.replicate n z).flatMap enc:=by
 have hzs:zs.size=s:=by rw [← hs z,←hz,Array.length_toList]
 apply List.ext_getElem?
 intro k
 by_cases hk:k<n*s
 ·have hd:k/s<n:=Nat.div_lt_of_lt_mul (by rw [Nat.mul_comm];exact hk)
  have hm:k%s<s:=Nat.mod_lt _ h0
  have he:(enc z)[k%s]? =some ((enc z)[k%s]'(by rw [hs];exact hm)):=List.getElem?_eq_getElem _
  have h1:=flat_get hs (List.replicate n z) (k/s) z (by rw [List.getElem?_replicate,if_pos hd]) (k%s) _ he
  rw [Nat.mul_comm,Nat.div_add_mod] at h1
  rw [h1,Array.getElem?_toList]
  unfold madeCells
  rw [Array.getElem?_map,Array.getElem?_range,if_pos hk]
  have h2:zs[k%s]? =(enc z)[k%s]? :=by rw [← hz,Array.getElem?_toList]
  rw [he] at h2
  simp only [Option.map_some,hzs]
  rw [getElem!_def,h2]
 ·rw [List.getElem?_eq_none (by rw [Array.length_toList,size_madeCells];omega),List.getElem?_eq_none (by rw [flat_len hs,List.length_replicate];omega)]
section
variable {ops:Array Oper} {rest:List Oper} {o:Oper} {a:Act} {Q:Exit→Act→World→Prop} {P:Program}
theorem wp_makeS {α:Type} {s:Nat} {enc:α→List Value} (hs:∀x,(enc x).length=s) (h0:0<s) {T E:TypeId} {i:TypeInfo} (z:α) {zv:Value} {bytes:Nat} (hT:P.underlying T=some (.slice E)) (hi:P.info? E=some i) (hz0:i.zero=some zv) (hz1:i.size=s) (hz2:i.bytes=bytes)
  (hzv:zv.cells.toList=enc z) (w:World) (hg:o.guard=none) (l c:Operand) (hop:o.op=Op.makeSlice T l c) (L C:Int) (n:Nat) (hl:a.eval l = .int .i64 L) (hc:a.eval c = .int .i64 C) (hL:L=(n:Int)) (hC:C=(n:Int)) (hn:bytes*n≤281474976710656) (h63:n≤maxLen)
  (h:∀w',OwnS s enc E w' w.heap.size (.slice (some ⟨w.heap.size,0,none⟩) n n) (List.replicate n z)→Below w.heap.size w w'→w.heap.size<w'.heap.size→wpList P ops Q rest (a.put o.dst (.slice (some ⟨w.heap.size,0,none⟩) n n)) w') :
  wpList P ops Q (o::rest) a w:=
 wpList_make_full w hg l c T hop w.heap.size E i zv s hT hi hz0 hz1 .i64 .i64 L C n hl hc hL hC (by rw [hz2];exact hn) h63 (Nat.le_refl _) fun w' hown hgr=>by
  have h1:OwnS s enc E w' w.heap.size (.slice (some ⟨w.heap.size,0,none⟩) n n) (List.replicate n z):=by
   unfold OwnS
   rw [List.length_replicate]
   rw [toList_madeCells hs h0 z zv.cells hzv] at hown
   exact hown
  exact h w' h1 ((Below.refl _ _).grown hgr (Nat.le_refl _) (by simp)) (h1.lt w.heap.size rfl).2
end
end
section
open Go.RowKit Go.Sort
theorem regrown_below {w w':World} (h:∃p:Regrown,w'=grow (redrawn w p.d) p.os):Below w.heap.size w w':=by
 obtain ⟨p,rfl⟩:=h
 exact below_regrown w p.d p.os
theorem regrown_calls {P:Program} {f:FuncId} {args:Array Value} {W:World} {v:Value}
  (h:∀W',Below W.heap.size W W'→Calls P f args W' fun e w'=>e = .returned v∧Below W.heap.size W w') (d:Nat) (os:Array Obj) :
  Calls P f args (grow (redrawn W d) os) fun e w''=>e = .returned v∧∃p:Regrown,w''=grow (redrawn W p.d) p.os:=
 (h _ (below_regrown W d os)).mono fun _ _ ⟨he,hb⟩=>⟨he,regrown_of_below hb⟩
end
end
end Go.Proofs.YtnlmlehcpngcgaaGreat
