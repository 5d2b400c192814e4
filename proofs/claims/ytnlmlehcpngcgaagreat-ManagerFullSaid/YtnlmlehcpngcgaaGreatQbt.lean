/- Numbers of at most one word; rules: calls that the model runs itself, loops whose rounds are known, slices cut. Contracts: nat's Norm, Of, Add, Mul; meter's add, mul: of numbers of at most one word. A region with a resource left outside: what it bears can be read wherever the region stands. How many assignments a diagram stands for, as the program counts them: pure facts. -/
import Derived.Test.YtnlmlehcpngcgaaGreatQbr
import Derived.Test.YtnlmlehcpngcgaaGreatQbs
import Derived.Test.YtnlmlehcpngcgaaGreatQbp
import Derived.Test.YtnlmlehcpngcgaaGreatShelf
import Derived.Laws.Externs
import Derived.LoopN
import Derived.Test.YtnlmlehcpngcgaaGreatQbj
import Derived.Test.YtnlmlehcpngcgaaGreatQaj
namespace Go.Proofs.YtnlmlehcpngcgaaGreat
set_option linter.unusedSimpArgs false
set_option linter.unusedVariables false
section
open Go.RowKit Go.Sort
section
variable {P:Program} {g:Rg} {c:Cx} {K:Act→World→Prop} {R:Res} {m:Nat} {cv:List (Nat×SV)} {pd:List (Bool×Nat)}
def Rg.ecall (g:Rg) (P:Program) (cv:List (Nat×SV)) (j:Nat):Option (FuncId×List SV):=
 match g.l[j]? with
 | some {op:= .call {callee:= .value (.func f),args:=xs,..},..}=>(xs.toList.mapM (g.ev (g.tab P cv) j)).map fun l=>(f,l)
 | _=>none
theorem RVext (j:Nat) (f:FuncId) (l:List SV) (x:SV) (hst:g.stat c.nt=true) (hck:g.rdy P cv j=true) (hv:g.ecall P cv j=some (f,l)) (hrun:∀ρ w,(callFunc f (l.map (SV.val ρ)).toArray).run P w = .ok (.value (x.val ρ)) w) (h:RV P g c K m (g.tab P ((j,x)::cv)) R ((false,j)::pd)):RV P g c K (m+1) (g.tab P cv) R pd:=by
 unfold Rg.ecall at hv
 split at hv
 ·rename_i d f' xs ts ty pos af gu ho
  rw [Option.map_eq_some_iff] at hv
  obtain ⟨l',h1,h2⟩:=hv
  injection h2 with e1 e2
  subst e1 e2
  refine RV.read j _ false x hst ho hck (fun ρ w F hb=>?_) h
  have ha:xs.map (g.env (g.tab P cv) j ρ)=(l'.map (SV.val ρ)).toArray:=by
   rw [← mapM_ev (ρ:=ρ) h1]
   apply Array.ext'
   simp
  have hv:g.env (g.tab P cv) j ρ (.func f') = .func (.func f') #[] #[]:=rfl
  simp only [execOp,resolve,hv,ha,Deferred.ofValue,invoke,Sem.run_bind,Sem.run_pure,Result.andThen_ok,Array.append_empty,Array.empty_append]
  exact hrun ρ w
 ·cases hv
theorem TT.unroll {x:Code} {s:SS} {Q:Exit→Act→World→Prop} (n:Nat) (h:TT P c x s R (Exit.then (Code.rounds P x Q n) Q)):TT P c (.loop x) s R Q:=fun ρ a w hs=>wp_loop_rounds (n+1) (h ρ a w hs)
theorem TT.again {x:Code} {s:SS} {Q:Exit→Act→World→Prop} {n:Nat} (h:TT P c x s R (Exit.then (Code.rounds P x Q n) Q)):∀ρ a w,St c s R ρ a w→Code.rounds P x Q (n+1) a w:=fun ρ a w hs=>h ρ a w hs
end
theorem run_slc {P:Program} {t e:TypeId} {A:Option Addr} {n c s:Nat} {w:World} (k:Nat) (ht:P.underlying t=some (.slice e)) (hs:(P.info? e).map (·.size)=some s) (hk:k≤c):(Instr.sliceAt t (.slice A n c) none (some (.int .i64 (k:Int))) none).run P w = .ok (.slice A k c) w:=by
 obtain ⟨i,hi,hsz⟩:=Option.map_eq_some_iff.1 hs
 have hA:A.map (·.add 0)=A:=by cases A<;>rfl
 simp [Instr.sliceAt,Instr.slice,Instr.sliceBounds,Instr.sliceBound,asIntOf,run_underlying ht,sizeOf,typeInfo,hi,hA,hk,Sem.run_bind]
def UN (x:Nat):Value:= .int .u64 (x:Int)
theorem info_u64N:(Tryz.prog.info? 73).map (fun i=>(i.zero,i.size,i.bytes))=some (some (.int .u64 0),1,8):=by kernel_rfl
set_option maxHeartbeats 1000000 in
theorem cloneN (A:Option Addr) (n c:Nat) (ws:List Nat) (w:World) (hz:ws.length=n) (hn:n≤34359738367) (hr:RowF UN 0 w w.heap.size A ws) :
  Calls Tryz.prog 83 #[.slice A n c] w fun e w'=>∃v,e = .returned v∧OwnF UN 73 w' w.heap.size v ws∧Below w.heap.size w w':=by
 obtain ⟨i0,hi,hz0,hz1,hz2⟩:=info_parts info_u64N
 have heq:=fun (W:World)=>Lib.run_eql_slice_nil (P:=Tryz.prog) W 70 73 A n c 0 0 Tryz.underlying70
 rcases A with _|ad
 ·have hn0:ws=[]:=by
   cases ws with
   | nil=>rfl
   | cons z r=>obtain ⟨_,_,h,_⟩:=hr (by simp);cases h
  subst hn0
  go_enter Tryz.func83,Tryz.ntmps83
  go_wp2
  go_ret
  exact ⟨_,rfl,OwnF.nil_,Below.refl _ _⟩
 ·have hsrc:=Lib.hid ((hr.src hz).alloc (.cells #[] 73))
  have hown0:OwnF UN 73 (w.alloc (.cells #[] 73)) w.heap.size (.slice (some ⟨w.heap.size,0,none⟩) 0 0) []:=World.ownsRow_lit w #[] 0 (Nat.le_refl _) (by unfold maxLen;omega) rfl
  have hown:=Lib.hid hown0
  clear hown0 hz hr
  go_enter Tryz.func83,Tryz.ntmps83
  go_wp2_with (at_builtin;refine wp_appN (f:=UN) Tryz.underlying70 hi hz0 hz1 hz2 rfl (by omega) _ rfl _ _ rfl w.heap.size _ [] ws (some ad) n c (fun _=>rfl) hown.out hsrc.out (by simp) (by simp;omega) rfl rfl ?_;intro v1 w1 hown1 hb1 hs1 hg1 hv1)
  go_ret
  simp only [List.nil_append] at hown1
  exact ⟨_,rfl,hown1,((Below.refl _ _).alloc (Nat.le_refl _) _).trans hb1⟩
abbrev slW (A:Option Addr) (n c:Nat) (xs:List Nat):Res:=slR 1 (fun x:Nat=>[.int .u64 (x:Int)]) 73 A n c xs
def wl (x:Nat):List Nat:=if x=0 then [] else [x]
theorem ownF_slW {W:World} {A:Option Addr} {n c:Nat} {xs:List Nat}:OwnF UN 73 W 0 (.slice A n c) xs↔OwnS 1 (fun x:Nat=>[.int .u64 (x:Int)]) 73 W 0 (.slice A n c) xs:=by
 unfold OwnF OwnS
 rw [show xs.flatMap (fun x:Nat=>[Value.int .u64 (x:Int)])=xs.map UN from by induction xs with |nil=>rfl|cons x xs ih=>rw [List.flatMap_cons,ih];rfl]
theorem slW_row {W:World} {F:List Nat} {A:Option Addr} {n c:Nat} {xs:List Nat} (h:(slW A n c xs).at_ W F):RowF UN 0 W W.heap.size A xs:=(ownF_slW.2 h.2).rows
structure NumIn (R:Res) (A:Option Addr) (n c x:Nat):Prop where
 len:n=(wl x).length
 cap:n≤c
 lt:x<18446744073709551616
 hd:x≠0→∃b,A=some ⟨b,0,none⟩
 row:∀{W:World} {F:List Nat},R.at_ W F→RowF UN 0 W W.heap.size A (wl x)
theorem NumIn.right {X R:Res} {A:Option Addr} {n c x:Nat} (h:NumIn R A n c x):NumIn (sepR X R) A n c x:=⟨h.len,h.cap,h.lt,h.hd,fun hR=>h.row (sepR_snd hR).choose_spec⟩
def NumOut (R:Res) (x:Nat) (F:List Nat) (w:World) (e:Ending) (w':World):Prop:=∃(A:Option Addr) (n c:Nat),e = .returned (.slice A n c)∧NumIn (slW A n c (wl x)) A n c x∧Lands (sepR (slW A n c (wl x)) R) F w w'
theorem NumIn.left {X R:Res} {A:Option Addr} {n c x:Nat} (h:NumIn X A n c x):NumIn (sepR X R) A n c x:=⟨h.len,h.cap,h.lt,h.hd,fun hR=>h.row (sepR_fst hR).choose_spec⟩
theorem Lands.drop2 {A B C:Res} {F:List Nat} {w w':World} (h:Lands (sepR A (sepR B C)) F w w'):Lands (sepR A C) F w w':=Lands.drop (A:=B) (Lands.imp h fun _ h=>sepR_swap h)
theorem own_num {w w':World} {F:List Nat} {R:Res} {v:Value} {x:Nat} (hx:x<18446744073709551616) (hF:R.at_ w F) (ho:OwnF UN 73 w' w.heap.size v (wl x)) (hb:Below w.heap.size w w'):∃A n c,v = .slice A n c∧NumIn (slW A n c (wl x)) A n c x∧Lands (sepR (slW A n c (wl x)) R) F w w':=by
 obtain ⟨A,n,c,rfl,hn,hc⟩:=ho.form
 refine ⟨A,n,c,rfl,⟨hn.symm,hc,hx,fun h0=>?_,fun h=>slW_row h⟩,?_⟩
 ·obtain ⟨b,hb⟩:=slR_head (show (slW A n c (wl x)).at_ w' (blk (.slice A n c)) from ⟨rfl,ownF_slW.1 (OwnF.mono ho (Nat.zero_le _))⟩) (by rw [← hn];unfold wl;rw [if_neg h0];exact Nat.one_pos)
  exact ⟨b,hb.1⟩
 have hc':=chg_of_below (F:=[]) hb
 refine ⟨blk (.slice A n c)++F,⟨blk (.slice A n c),F,fun x=>List.mem_append,⟨rfl,ownF_slW.1 (OwnF.mono ho (Nat.zero_le _))⟩,R.chg hF hc' (fun _ _ h=>by cases h),fun y hy hm=>?_⟩,fun y hy=>?_,hc'.mono fun x hx=>by cases hx⟩
 ·have:=(ho.lt y (mem_blk.1 hy)).1
  have:=R.lt hF y hm
  omega
 ·rcases List.mem_append.1 hy with h|h
  ·exact .inr (ho.lt y (mem_blk.1 h)).1
  ·exact .inl h
theorem wl_pos {x:Nat} (h:x≠0):wl x=[x]:=if_neg h
theorem row_at {B b i x:Nat} {ws:List Nat} {W:World} (h:RowF UN 0 W B (some ⟨b,0,none⟩) ws) (hi:ws[i]? =some x):W.cell? ⟨b,0+i*1,none⟩=some (.int .u64 (x:Int)):=by
 have hl:i<ws.length:=(List.getElem?_eq_some_iff.1 hi).1
 obtain ⟨b',off,e,_,hc⟩:=h (by omega)
 injection e with e
 injection e with e1 e2
 subst e1 e2
 have:=hc i hl
 rw [hi] at this
 rw [Nat.mul_one]
 exact this
theorem slW_st {b n c:Nat} {xs:List Nat} {R:Res} {w:World} {F:List Nat} (i x:Nat) (h:(sepR (slW (some ⟨b,0,none⟩) n c xs) R).at_ w F) (hi:i<n) :
  (do Instr.storeAt 73 (.pointer (some ⟨b,0+i*1,none⟩)) (.int .u64 (x:Int));pure undef:Sem Value).run Tryz.prog w = .ok undef (w.setCells b (0+i*1) [.int .u64 (x:Int)])∧Lands (sepR (slW (some ⟨b,0,none⟩) n c (xs.set i x)) R) F w (w.setCells b (0+i*1) [.int .u64 (x:Int)]):=by
 obtain ⟨F1,F2,e0,hS,hR,hd⟩:=h
 have hl:=slR_len hS
 obtain ⟨rfl,hO⟩:=hS
 obtain ⟨y,hy⟩:∃y,xs[i]? =some y:=⟨_,List.getElem?_eq_getElem (by omega)⟩
 obtain ⟨hat,hth⟩:=OwnS.at_ (s:=1) (enc:=fun x:Nat=>[Value.int .u64 (x:Int)]) (fun _=>rfl) hO i y hy
 have hset:=OwnS.set_ (s:=1) (enc:=fun x:Nat=>[Value.int .u64 (x:Int)]) (fun _=>rfl) hO i (by omega) x
 have hbk:blk (.slice (some ⟨b,0,none⟩) n c)=[b]:=rfl
 have hch:Chg [b] w (w.setCells b (0+i*1) [.int .u64 (x:Int)]):=Chg.setCells (Chg.refl _ _) (.inl (by simp)) _ _
 have e1:0+i*1=i*1:=by omega
 refine ⟨?_,F,⟨[b],F2,e0,⟨hbk.symm,?_⟩,R.chg hR hch (fun k hk hm=>?_),hd⟩,fun y hy=> .inl hy,hch.mono fun y hy=>?_⟩
 ·refine run_st (v:= .int .u64 (x:Int)) (by kernel_rfl) (fun j hj=>?_) (fun j hj=>?_) (by simp [Value.cells,Value.oneCell'])
  ·have:j=0:=by simp [Value.cells] at hj;exact hj
   subst this
   have:=hat 0 _ rfl
   rw [e1]
   exact Option.isSome_iff_exists.2 ⟨_,this⟩
  ·have:j=0:=by simp [Value.cells] at hj;exact hj
   subst this
   rw [e1]
   exact (hth 0 (by decide)).2
 ·rw [e1]
  exact hset
 ·rw [List.mem_singleton] at hm
  subst hm
  exact hd k (by rw [hbk];simp) hk
 ·rw [List.mem_singleton] at hy
  subst hy
  exact .inl ((e0 y).2 (.inl (by rw [hbk];simp)))
theorem NumIn.one {R:Res} {A:Option Addr} {n c x:Nat} (h:NumIn R A n c x):n≤1:=by
 rw [h.len]
 unfold wl
 split
 ·exact Nat.zero_le _
 ·exact Nat.le_refl _
theorem add64N (x y z:Nat) (hz:x+y=z) (hlt:z<18446744073709551616) (w:World):(callFunc 127 #[.int .u64 (x:Int),.int .u64 (y:Int),.int .u64 0]).run Tryz.prog w = .ok (.value (.tuple #[.int .u64 (z:Int),.int .u64 0])) w:=by
 obtain ⟨fn,hf,h1,h2,h3,h4⟩:∃fn,Tryz.prog.funcs[127]? =some fn∧(fn.name== "runtime.NumGoroutine")=false∧fn.body.isNone=true∧(Extern.findNext fn).isNone=true∧Extern.find fn=some add64Entry:=⟨_,Tryz.func127,by kernel_rfl,by kernel_rfl,by kernel_rfl,by kernel_rfl⟩
 have h3':Extern.findNext fn=none:=by simpa using h3
 rw [run_callFunc_extern hf h1 h2 h3' h4,run_add64 (x:Int) (y:Int) 0 (by omega) (by omega) (by omega) (by omega)]
 have e1:((x:Int)+(y:Int)+0)%18446744073709551616=(z:Int):=by omega
 have e2:((x:Int)+(y:Int)+0)/18446744073709551616=0:=by omega
 rw [e1,e2]
 rfl
theorem mul64N {R:Res} {F:List Nat} {w:World} {x y z:Nat} (h:R.at_ w F) (hz:x*y=z) (hlt:z<18446744073709551616) (hx:x<18446744073709551616) (hy:y<18446744073709551616):Calls Tryz.prog 126 #[.int .u64 (x:Int),.int .u64 (y:Int)] w (Says (.tuple #[.int .u64 0,.int .u64 (z:Int)]) R F w):=by
 refine (Tryz.bits_Mul64 x y hx hy w).mono ?_
 rintro e w' ⟨rfl,rfl⟩
 refine ⟨?_,.of_below h (Below.refl _ _)⟩
 rw [hz,Nat.div_eq_of_lt hlt,Nat.mod_eq_of_lt hlt]
 rfl
set_option maxRecDepth 100000 in
set_option maxHeartbeats 2000000 in
theorem norm_0 {R:Res} {F:List Nat} {w:World} {A:Option Addr} {c:Nat} (h:R.at_ w F):Calls Tryz.prog 63 #[.slice A 0 c] w (NumOut R 0 F w):=by
 refine TTg [.v (.slice A 0 c)] Tryz.func63 Tryz.ntmps63 h ?_
 refine TTa 0 ⟨[(0,.v (.slice A 0 c))],[]⟩ ?_
 refine TTa 0 ⟨[(0,.v (.slice A 0 c)),(3,V64 0)],[]⟩ ?_
 refine TT.seq ?_
 refine TT.block ?_
 refine TT.unroll 3 ?_
 refine TT.seq (TTe 2 [6,7] ?_)
 refine RV.skip 6 (by kernel_rfl) (by kernel_rfl) ?_
 refine RV.skip 7 (by kernel_rfl) (by kernel_rfl) ?_
 refine RVz ⟨[(0,.v (.slice A 0 c)),(3,V64 0),(15,VB false)],[]⟩ ?_
 refine TTn ?_
 refine TTx ?_
 refine TT.next ?_
 refine TTe 2 [2,3] ?_
 refine RVd 2 (.slc 70 (.v (.slice A 0 c)) (V64 0)) (.v (.slice A 0 c)) (fun ρ w F hF=>run_slc (e:=73) (s:=1) 0 (by kernel_rfl) (by kernel_rfl) (by omega)) ?_
 refine RVc 3 83 (fun ρ=>[.slice A 0 c]) [] (fun ρ w1 F1 hF1 hpk1=>?_)
 refine (cloneN A 0 c [] w1 rfl (by decide) (RowF.nil_)).mono ?_
 rintro e1 w'1 ⟨v1,rfl,ho1,hb1⟩
 obtain ⟨A2,n2,c2,rfl,hN2,hl1⟩:=own_num (x:=0) (by decide) hF1 (by first |(rw [wl_pos hx];exact ho1)|exact ho1) hb1
 refine ⟨.v (.slice A2 n2 c2),_,rfl,hl1,?_⟩
 refine RVz ⟨[(2,.v (.slice A2 n2 c2))],[]⟩ ?_
 refine TTs Tryz.results63 (.v (.slice A2 n2 c2)) (fun _ _ h=>h) (fun ρ a w2 hs2=>?_)
 exact ⟨A2,n2,c2,rfl,hN2,hs2.lands⟩
set_option maxRecDepth 100000 in
set_option maxHeartbeats 2000000 in
theorem norm_1 {R:Res} {F:List Nat} {w:World} {b c:Nat} {x:Nat} (h:R.at_ w F) (hx:x≠0) (hlt:x<18446744073709551616) (hc:1≤c) (hr:∀{W:World} {F:List Nat},R.at_ W F→RowF UN 0 W W.heap.size (some ⟨b,0,none⟩) [x]):Calls Tryz.prog 63 #[.slice (some ⟨b,0,none⟩) 1 c] w (NumOut R x F w):=by
 have hx0:((x:Int)==0)=false:=by simp;omega
 refine TTg [.v (.slice (some ⟨b,0,none⟩) 1 c)] Tryz.func63 Tryz.ntmps63 h ?_
 refine TTa 0 ⟨[(0,.v (.slice (some ⟨b,0,none⟩) 1 c))],[]⟩ ?_
 refine TTa 0 ⟨[(0,.v (.slice (some ⟨b,0,none⟩) 1 c)),(3,V64 1)],[]⟩ ?_
 refine TT.seq ?_
 refine TT.block ?_
 refine TT.unroll 3 ?_
 refine TT.seq (TTe 3 [6,7,8] ?_)
 refine RVd 6 (.idx 70 (.v (.slice (some ⟨b,0,none⟩) 1 c)) (V64 0)) (.v (.pointer (some ⟨b,0+0*1,none⟩))) (fun ρ w F hF=>run_ixS (e:=73) (s:=1) (off:=0) 0 (by kernel_rfl) (by kernel_rfl) (by decide)) ?_
 refine RVd 7 (.load 73 (.v (.pointer (some ⟨b,0+0*1,none⟩)))) (VU (x:Int)) (fun ρ w F hF=>run_ld (by kernel_rfl) (row_at (hr hF) (i:=0) rfl)) ?_
 refine RVp 8 (.bool ((x:Int)==0)) (.bool false) (by first |rw [hx0]|rfl) ?_
 refine RVz ⟨[(0,.v (.slice (some ⟨b,0,none⟩) 1 c)),(3,V64 1),(15,VB false)],[]⟩ ?_
 refine TTn ?_
 refine TTx ?_
 refine TT.next ?_
 refine TTe 2 [2,3] ?_
 refine RVd 2 (.slc 70 (.v (.slice (some ⟨b,0,none⟩) 1 c)) (V64 1)) (.v (.slice (some ⟨b,0,none⟩) 1 c)) (fun ρ w F hF=>run_slc (e:=73) (s:=1) 1 (by kernel_rfl) (by kernel_rfl) (by omega)) ?_
 refine RVc 3 83 (fun ρ=>[.slice (some ⟨b,0,none⟩) 1 c]) [] (fun ρ w1 F1 hF1 hpk1=>?_)
 refine (cloneN (some ⟨b,0,none⟩) 1 c [x] w1 rfl (by decide) ((hr hF1).take 1)).mono ?_
 rintro e1 w'1 ⟨v1,rfl,ho1,hb1⟩
 obtain ⟨A2,n2,c2,rfl,hN2,hl1⟩:=own_num (x:=x) hlt hF1 (by first |(rw [wl_pos hx];exact ho1)|exact ho1) hb1
 refine ⟨.v (.slice A2 n2 c2),_,rfl,hl1,?_⟩
 refine RVz ⟨[(2,.v (.slice A2 n2 c2))],[]⟩ ?_
 refine TTs Tryz.results63 (.v (.slice A2 n2 c2)) (fun _ _ h=>h) (fun ρ a w2 hs2=>?_)
 exact ⟨A2,n2,c2,rfl,hN2,hs2.lands⟩
set_option maxRecDepth 100000 in
set_option maxHeartbeats 2000000 in
theorem norm_z {R:Res} {F:List Nat} {w:World} {b c:Nat} (h:R.at_ w F) (hc:1≤c) (hr:∀{W:World} {F:List Nat},R.at_ W F→RowF UN 0 W W.heap.size (some ⟨b,0,none⟩) [0]):Calls Tryz.prog 63 #[.slice (some ⟨b,0,none⟩) 1 c] w (NumOut R 0 F w):=by
 refine TTg [.v (.slice (some ⟨b,0,none⟩) 1 c)] Tryz.func63 Tryz.ntmps63 h ?_
 refine TTa 0 ⟨[(0,.v (.slice (some ⟨b,0,none⟩) 1 c))],[]⟩ ?_
 refine TTa 0 ⟨[(0,.v (.slice (some ⟨b,0,none⟩) 1 c)),(3,V64 1)],[]⟩ ?_
 refine TT.seq ?_
 refine TT.block ?_
 refine TT.unroll 3 ?_
 refine TT.seq (TTe 2 [6,7] ?_)
 refine RVd 6 (.idx 70 (.v (.slice (some ⟨b,0,none⟩) 1 c)) (V64 0)) (.v (.pointer (some ⟨b,0+0*1,none⟩))) (fun ρ w F hF=>run_ixS (e:=73) (s:=1) (off:=0) 0 (by kernel_rfl) (by kernel_rfl) (by decide)) ?_
 refine RVd 7 (.load 73 (.v (.pointer (some ⟨b,0+0*1,none⟩)))) (VU 0) (fun ρ w F hF=>run_ld (by kernel_rfl) (row_at (hr hF) (i:=0) rfl)) ?_
 refine RVz ⟨[(0,.v (.slice (some ⟨b,0,none⟩) 1 c)),(3,V64 1),(15,VB true)],[]⟩ ?_
 refine TTy ?_
 refine TT.skip ?_
 refine TT.next ?_
 refine TT.block ?_
 refine TT.p0 (s':=⟨[(0,.v (.slice (some ⟨b,0,none⟩) 1 c)),(3,V64 0)],[]⟩) 0 (by kernel_rfl) ?_
 refine TT.again ?_
 refine TT.seq (TTe 2 [6,7] ?_)
 refine RV.skip 6 (by kernel_rfl) (by kernel_rfl) ?_
 refine RV.skip 7 (by kernel_rfl) (by kernel_rfl) ?_
 refine RVz ⟨[(0,.v (.slice (some ⟨b,0,none⟩) 1 c)),(3,V64 0),(15,VB false)],[]⟩ ?_
 refine TTn ?_
 refine TTx ?_
 refine TT.next ?_
 refine TTe 2 [2,3] ?_
 refine RVd 2 (.slc 70 (.v (.slice (some ⟨b,0,none⟩) 1 c)) (V64 0)) (.v (.slice (some ⟨b,0,none⟩) 0 c)) (fun ρ w F hF=>run_slc (e:=73) (s:=1) 0 (by kernel_rfl) (by kernel_rfl) (by omega)) ?_
 refine RVc 3 83 (fun ρ=>[.slice (some ⟨b,0,none⟩) 0 c]) [] (fun ρ w1 F1 hF1 hpk1=>?_)
 refine (cloneN (some ⟨b,0,none⟩) 0 c [] w1 rfl (by decide) ((hr hF1).take 0)).mono ?_
 rintro e1 w'1 ⟨v1,rfl,ho1,hb1⟩
 obtain ⟨A2,n2,c2,rfl,hN2,hl1⟩:=own_num (x:=0) (by decide) hF1 (by first |(rw [wl_pos hx];exact ho1)|exact ho1) hb1
 refine ⟨.v (.slice A2 n2 c2),_,rfl,hl1,?_⟩
 refine RVz ⟨[(2,.v (.slice A2 n2 c2))],[]⟩ ?_
 refine TTs Tryz.results63 (.v (.slice A2 n2 c2)) (fun _ _ h=>h) (fun ρ a w2 hs2=>?_)
 exact ⟨A2,n2,c2,rfl,hN2,hs2.lands⟩
set_option maxRecDepth 100000 in
set_option maxHeartbeats 2000000 in
theorem norm_2 {R:Res} {F:List Nat} {w:World} {b c:Nat} {x:Nat} (h:R.at_ w F) (hx:x≠0) (hlt:x<18446744073709551616) (hc:2≤c) (hr:∀{W:World} {F:List Nat},R.at_ W F→RowF UN 0 W W.heap.size (some ⟨b,0,none⟩) [x,0]):Calls Tryz.prog 63 #[.slice (some ⟨b,0,none⟩) 2 c] w (NumOut R x F w):=by
 have hx0:((x:Int)==0)=false:=by simp;omega
 refine TTg [.v (.slice (some ⟨b,0,none⟩) 2 c)] Tryz.func63 Tryz.ntmps63 h ?_
 refine TTa 0 ⟨[(0,.v (.slice (some ⟨b,0,none⟩) 2 c))],[]⟩ ?_
 refine TTa 0 ⟨[(0,.v (.slice (some ⟨b,0,none⟩) 2 c)),(3,V64 2)],[]⟩ ?_
 refine TT.seq ?_
 refine TT.block ?_
 refine TT.unroll 3 ?_
 refine TT.seq (TTe 3 [6,7,8] ?_)
 refine RVd 6 (.idx 70 (.v (.slice (some ⟨b,0,none⟩) 2 c)) (V64 1)) (.v (.pointer (some ⟨b,0+1*1,none⟩))) (fun ρ w F hF=>run_ixS (e:=73) (s:=1) (off:=0) 1 (by kernel_rfl) (by kernel_rfl) (by decide)) ?_
 refine RVd 7 (.load 73 (.v (.pointer (some ⟨b,0+1*1,none⟩)))) (VU 0) (fun ρ w F hF=>run_ld (by kernel_rfl) (row_at (hr hF) (i:=1) rfl)) ?_
 refine RVp 8 (.bool true) (.bool true) (by first |rw [hx0]|rfl) ?_
 refine RVz ⟨[(0,.v (.slice (some ⟨b,0,none⟩) 2 c)),(3,V64 2),(15,VB true)],[]⟩ ?_
 refine TTy ?_
 refine TT.skip ?_
 refine TT.next ?_
 refine TT.block ?_
 refine TT.p0 (s':=⟨[(0,.v (.slice (some ⟨b,0,none⟩) 2 c)),(3,V64 1)],[]⟩) 0 (by kernel_rfl) ?_
 refine TT.again ?_
 refine TT.seq (TTe 3 [6,7,8] ?_)
 refine RVd 6 (.idx 70 (.v (.slice (some ⟨b,0,none⟩) 2 c)) (V64 0)) (.v (.pointer (some ⟨b,0+0*1,none⟩))) (fun ρ w F hF=>run_ixS (e:=73) (s:=1) (off:=0) 0 (by kernel_rfl) (by kernel_rfl) (by decide)) ?_
 refine RVd 7 (.load 73 (.v (.pointer (some ⟨b,0+0*1,none⟩)))) (VU (x:Int)) (fun ρ w F hF=>run_ld (by kernel_rfl) (row_at (hr hF) (i:=0) rfl)) ?_
 refine RVp 8 (.bool ((x:Int)==0)) (.bool false) (by first |rw [hx0]|rfl) ?_
 refine RVz ⟨[(0,.v (.slice (some ⟨b,0,none⟩) 2 c)),(3,V64 1),(15,VB false)],[]⟩ ?_
 refine TTn ?_
 refine TTx ?_
 refine TT.next ?_
 refine TTe 2 [2,3] ?_
 refine RVd 2 (.slc 70 (.v (.slice (some ⟨b,0,none⟩) 2 c)) (V64 1)) (.v (.slice (some ⟨b,0,none⟩) 1 c)) (fun ρ w F hF=>run_slc (e:=73) (s:=1) 1 (by kernel_rfl) (by kernel_rfl) (by omega)) ?_
 refine RVc 3 83 (fun ρ=>[.slice (some ⟨b,0,none⟩) 1 c]) [] (fun ρ w1 F1 hF1 hpk1=>?_)
 refine (cloneN (some ⟨b,0,none⟩) 1 c [x] w1 rfl (by decide) ((hr hF1).take 1)).mono ?_
 rintro e1 w'1 ⟨v1,rfl,ho1,hb1⟩
 obtain ⟨A2,n2,c2,rfl,hN2,hl1⟩:=own_num (x:=x) hlt hF1 (by first |(rw [wl_pos hx];exact ho1)|exact ho1) hb1
 refine ⟨.v (.slice A2 n2 c2),_,rfl,hl1,?_⟩
 refine RVz ⟨[(2,.v (.slice A2 n2 c2))],[]⟩ ?_
 refine TTs Tryz.results63 (.v (.slice A2 n2 c2)) (fun _ _ h=>h) (fun ρ a w2 hs2=>?_)
 exact ⟨A2,n2,c2,rfl,hN2,hs2.lands⟩
theorem normN {R:Res} {F:List Nat} {w:World} {A:Option Addr} {n c x:Nat} (h:R.at_ w F) (hN:NumIn R A n c x):Calls Tryz.prog 63 #[.slice A n c] w (NumOut R x F w):=by
 by_cases hx:x=0
 ·subst hx
  obtain rfl:n=0:=hN.len
  exact norm_0 h
 ·obtain ⟨b,rfl⟩:=hN.hd hx
  obtain rfl:n=1:=by rw [hN.len,wl_pos hx];rfl
  exact norm_1 h hx hN.lt hN.cap (fun hR=>by have:=hN.row hR;rwa [wl_pos hx] at this)
set_option maxRecDepth 100000 in
set_option maxHeartbeats 2000000 in
theorem fitsN {R:Res} {F:List Nat} {w:World} {A:Option Addr} {n c:Nat} (h:R.at_ w F) (hn:n≤1):Calls Tryz.prog 137 #[.slice A n c] w (Says (.bool true) R F w):=by
 have hle:decide ((n:Int)≤64)=true:=by simp;omega
 refine TTg [.v (.slice A n c)] Tryz.func137 Tryz.ntmps137 h ?_
 refine TTa 0 ⟨[(0,.v (.slice A n c))],[]⟩ ?_
 refine TTa 0 ⟨[(2,VB (decide ((n:Int)≤64)))],[]⟩ ?_
 rw [hle]
 refine TTs Tryz.results137 (VB true) (fun _ _ h=>h) (fun ρ a w1 hs1=>?_)
 exact ⟨rfl,hs1.lands⟩
set_option maxRecDepth 100000 in
set_option maxHeartbeats 2000000 in
theorem toldN {R:Res} {F:List Nat} {w:World} {A:Option Addr} {n c z:Nat} (h:R.at_ w F) (hNm:∀{W:World} {X:List Nat},R.at_ W X→Calls Tryz.prog 63 #[.slice A n c] W (NumOut R z X W)):Calls Tryz.prog 128 #[.slice A n c] w (fun e w'=>∃(A:Option Addr) (n c:Nat),e = .returned (.tuple #[.slice A n c,.bool true])∧NumIn (slW A n c (wl z)) A n c z∧Lands (sepR (slW A n c (wl z)) R) F w w'):=by
 refine TTg [.v (.slice A n c)] Tryz.func128 Tryz.ntmps128 h ?_
 refine TTa 0 ⟨[(0,.v (.slice A n c))],[]⟩ ?_
 refine TTe 1 [1] ?_
 refine RVc 1 63 (fun ρ=>[.slice A n c]) [] (fun ρ w1 F1 hF1 hpk1=>?_)
 refine (hNm hF1).mono ?_
 rintro e1 w'1 ⟨A2,n2,c2,rfl,hN2,hl1⟩
 refine ⟨.v (.slice A2 n2 c2),_,rfl,hl1,?_⟩
 refine RVz ⟨[(0,.v (.slice A2 n2 c2))],[]⟩ ?_
 refine TT.seq (TTe 1 [1] ?_)
 refine RVc 1 137 (fun ρ=>[.slice A2 n2 c2]) [] (fun ρ w2 F2 hF2 hpk2=>?_)
 refine (fitsN hF2 (n:=n2) (A:=A2) (c:=c2) (by have:=hN2.one;omega)).mono ?_
 rintro e2 w'2 ⟨rfl,hl2⟩
 refine ⟨VB true,_,rfl,hl2,?_⟩
 refine RVz ⟨[(0,.v (.slice A2 n2 c2)),(8,VB false)],[]⟩ ?_
 refine TTu (TT.next ?_)
 refine TTa 0 ⟨[(2,.v (.slice A2 n2 c2)),(3,VB true)],[]⟩ ?_
 refine TTt Tryz.results128 (.v (.slice A2 n2 c2)) (VB true) (fun _ _ h=>h) (fun ρ a w3 hs3=>?_)
 exact ⟨A2,n2,c2,rfl,hN2,hs3.lands⟩
set_option maxRecDepth 100000 in
set_option maxHeartbeats 2000000 in
theorem bothN {R:Res} {F:List Nat} {w:World} {A:Option Addr} {n c:Nat} {A':Option Addr} {n' c':Nat} {x y:Nat} (h:R.at_ w F) (hNa:NumIn R A n c x) (hNb:NumIn R A' n' c' y):Calls Tryz.prog 125 #[.slice A n c,.slice A' n' c'] w (fun e w'=>∃(A1:Option Addr) (n1 c1:Nat) (A2:Option Addr) (n2 c2:Nat),e = .returned (.tuple #[.slice A1 n1 c1,.slice A2 n2 c2,.bool true])∧NumIn (slW A1 n1 c1 (wl x)) A1 n1 c1 x∧NumIn (slW A2 n2 c2 (wl y)) A2 n2 c2 y∧Lands (sepR (slW A2 n2 c2 (wl y)) (sepR (slW A1 n1 c1 (wl x)) R)) F w w'):=by
 refine TTg [.v (.slice A n c),.v (.slice A' n' c')] Tryz.func125 Tryz.ntmps125 h ?_
 refine TTa 0 ⟨[(0,.v (.slice A n c)),(1,.v (.slice A' n' c'))],[]⟩ ?_
 refine TTe 2 [1,3] ?_
 refine RVc 1 63 (fun ρ=>[.slice A n c]) [] (fun ρ w1 F1 hF1 hpk1=>?_)
 refine (normN hF1 hNa).mono ?_
 rintro e1 w'1 ⟨A5,n5,c5,rfl,hN5,hl1⟩
 refine ⟨.v (.slice A5 n5 c5),_,rfl,hl1,?_⟩
 refine RVc 3 63 (fun ρ=>[.slice A' n' c']) [] (fun ρ w2 F2 hF2 hpk2=>?_)
 refine (normN hF2 hNb.right).mono ?_
 rintro e2 w'2 ⟨A6,n6,c6,rfl,hN6,hl2⟩
 refine ⟨.v (.slice A6 n6 c6),_,rfl,hl2,?_⟩
 refine RVz ⟨[(0,.v (.slice A5 n5 c5)),(1,.v (.slice A6 n6 c6))],[]⟩ ?_
 refine TTe 2 [3,6] ?_
 refine RVc 3 137 (fun ρ=>[.slice A5 n5 c5]) [] (fun ρ w3 F3 hF3 hpk3=>?_)
 refine (fitsN hF3 (n:=n5) (A:=A5) (c:=c5) (by have:=hN5.one;omega)).mono ?_
 rintro e3 w'3 ⟨rfl,hl3⟩
 refine ⟨VB true,_,rfl,hl3,?_⟩
 refine RVc 6 137 (fun ρ=>[.slice A6 n6 c6]) [] (fun ρ w4 F4 hF4 hpk4=>?_)
 refine (fitsN hF4 (n:=n6) (A:=A6) (c:=c6) (by have:=hN6.one;omega)).mono ?_
 rintro e4 w'4 ⟨rfl,hl4⟩
 refine ⟨VB true,_,rfl,hl4,?_⟩
 refine RVz ⟨[(4,.v (.slice A5 n5 c5)),(5,.v (.slice A6 n6 c6)),(6,VB true)],[]⟩ ?_
 refine TT.ret3 (fn:=Tryz.f125) (y1:= .v (.slice A5 n5 c5)) (y2:= .v (.slice A6 n6 c6)) (y3:=VB true) (fun _ _ h=>h) Tryz.results125 (by kernel_rfl) (by kernel_rfl) (by kernel_rfl) (fun ρ a w5 hs5=>?_)
 exact ⟨A5,n5,c5,A6,n6,c6,rfl,hN5,hN6,hs5.lands⟩
set_option maxRecDepth 100000 in
set_option maxHeartbeats 2000000 in
theorem add_00 {R:Res} {F:List Nat} {w:World} {A:Option Addr} {n c:Nat} {A':Option Addr} {n' c':Nat} {x y:Nat} {z:Nat} (h:R.at_ w F) (hNa:NumIn R A n c 0) (hNb:NumIn R A' n' c' 0) (hlt:0<18446744073709551616):Calls Tryz.prog 124 #[.slice A n c,.slice A' n' c'] w (fun e w'=>∃(A:Option Addr) (n c:Nat),e = .returned (.tuple #[.slice A n c,.bool true])∧NumIn (slW A n c (wl 0)) A n c 0∧Lands (sepR (slW A n c (wl 0)) R) F w w'):=by
 refine TTg [.v (.slice A n c),.v (.slice A' n' c')] Tryz.func124 Tryz.ntmps124 h ?_
 refine TTa 0 ⟨[(0,.v (.slice A n c)),(1,.v (.slice A' n' c'))],[]⟩ ?_
 refine TTe 1 [2] ?_
 refine RVc 2 125 (fun ρ=>[.slice A n c,.slice A' n' c']) [] (fun ρ w1 F1 hF1 hpk1=>?_)
 refine (bothN hF1 hNa hNb).mono ?_
 rintro e1 w'1 ⟨A5,n5,c5,A6,n6,c6,rfl,hN5,hN6,hl1⟩
 obtain rfl:n5=0:=hN5.len
 obtain rfl:n6=0:=hN6.len
 refine ⟨.v (.tuple #[.slice A5 0 c5,.slice A6 0 c6,.bool true]),_,rfl,hl1,?_⟩
 refine RVz ⟨[(0,.v (.slice A5 0 c5)),(1,.v (.slice A6 0 c6)),(6,VB true)],[]⟩ ?_
 refine TT.seq (TTa 0 ⟨[(0,.v (.slice A5 0 c5)),(1,.v (.slice A6 0 c6)),(20,VB false)],[]⟩ ?_)
 refine TTu (TT.next ?_)
 refine TT.seq (TTa 0 ⟨[(0,.v (.slice A5 0 c5)),(1,.v (.slice A6 0 c6)),(25,VB false)],[]⟩ ?_)
 refine TTu (TT.next ?_)
 refine TTe 1 [3] ?_
 refine RV.mk (α:=Nat) (s:=1) (enc:=fun x:Nat=>[.int .u64 (x:Int)]) (E:=73) 3 70 1 0 (z:= .int .u64 0) (bytes:=8) (by kernel_rfl) (by kernel_rfl) (by kernel_rfl) (by kernel_rfl) (by kernel_rfl) rfl (by decide) (fun _=>rfl) (by decide) (by decide) (fun A7=>?_)
 refine RVz ⟨[(0,.v (.slice A5 0 c5)),(1,.v (.slice A6 0 c6)),(7,.v (.slice A7 1 1))],[]⟩ ?_
 refine TT.know (∃ b,A7=some ⟨b,0,none⟩) (fun w F h=>by obtain ⟨b,hb,_⟩:=slR_head (sepR_fst h).choose_spec (by decide);exact ⟨b,hb⟩) (fun hA7=>?_)
 obtain ⟨b7,rfl⟩:=hA7
 show TT _ _ _ _ (sepR (slW (some ⟨b7,0,none⟩) 1 1 [0]) (sepR (slW A6 0 c6 (wl 0)) (sepR (slW A5 0 c5 (wl 0)) R))) _
 refine TTa 0 ⟨[(0,.v (.slice A5 0 c5)),(1,.v (.slice A6 0 c6)),(7,.v (.slice (some ⟨b7,0,none⟩) 1 1)),(8,VU 0)],[]⟩ ?_
 refine TT.seq (TTa 0 ⟨[(0,.v (.slice A5 0 c5)),(1,.v (.slice A6 0 c6)),(7,.v (.slice (some ⟨b7,0,none⟩) 1 1)),(8,VU 0),(32,.v (.slice A5 0 c5)),(33,V64 0),(34,V64 0)],[]⟩ ?_)
 refine TT.block ?_
 refine TT.unroll 2 ?_
 refine TTa 0 ⟨[(0,.v (.slice A5 0 c5)),(1,.v (.slice A6 0 c6)),(7,.v (.slice (some ⟨b7,0,none⟩) 1 1)),(8,VU 0),(32,.v (.slice A5 0 c5)),(33,V64 0),(34,V64 0),(35,VB false)],[]⟩ ?_
 refine TT.seq ?_
 refine TTn ?_
 refine TTx ?_
 refine TT.next ?_
 refine TTe 2 [4,5] ?_
 refine RVd 4 (.idx 70 (.v (.slice (some ⟨b7,0,none⟩) 1 1)) (V64 0)) (.v (.pointer (some ⟨b7,0+0*1,none⟩))) (fun ρ w F hF=>run_ixS (e:=73) (s:=1) (off:=0) 0 (by kernel_rfl) (by kernel_rfl) (by decide)) ?_
 refine RVw 5 (.store 73 (.v (.pointer (some ⟨b7,0+0*1,none⟩))) (VU 0)) (fun ρ w F hF=>⟨_,.v undef,sepR (slW (some ⟨b7,0,none⟩) 1 1 [0]) (sepR (slW A6 0 c6 (wl 0)) (sepR (slW A5 0 c5 (wl 0)) R)),(slW_st 0 0 hF (by decide)).1,(slW_st 0 0 hF (by decide)).2,?_⟩)
 refine RVz ⟨[(7,.v (.slice (some ⟨b7,0,none⟩) 1 1))],[]⟩ ?_
 refine TTe 1 [1] ?_
 refine RVc 1 128 (fun ρ=>[.slice (some ⟨b7,0,none⟩) 1 1]) [] (fun ρ w2 F2 hF2 hpk2=>?_)
 refine (toldN (z:=0) hF2 (fun h=>norm_z h (by decide) (fun h=>slW_row (sepR_fst h).choose_spec))).mono ?_
 rintro e2 w'2 ⟨A8,n8,c8,rfl,hN8,hl2⟩
 refine ⟨.v (.tuple #[.slice A8 n8 c8,.bool true]),_,rfl,hl2,?_⟩
 refine RVz ⟨[(4,.v (.slice A8 n8 c8)),(5,VB true)],[]⟩ ?_
 refine TTt Tryz.results124 (.v (.slice A8 n8 c8)) (VB true) (fun _ _ h=>h) (fun ρ a w3 hs3=>?_)
 exact ⟨A8,n8,c8,rfl,hN8,hs3.lands.drop2.drop2.drop2⟩
set_option maxRecDepth 100000 in
set_option maxHeartbeats 2000000 in
theorem add_01 {R:Res} {F:List Nat} {w:World} {A:Option Addr} {n c:Nat} {A':Option Addr} {n' c':Nat} {x y:Nat} {z:Nat} (h:R.at_ w F) (hNa:NumIn R A n c 0) (hNb:NumIn R A' n' c' y) (hy:y≠0) (hlt:y<18446744073709551616):Calls Tryz.prog 124 #[.slice A n c,.slice A' n' c'] w (fun e w'=>∃(A:Option Addr) (n c:Nat),e = .returned (.tuple #[.slice A n c,.bool true])∧NumIn (slW A n c (wl y)) A n c y∧Lands (sepR (slW A n c (wl y)) R) F w w'):=by
 refine TTg [.v (.slice A n c),.v (.slice A' n' c')] Tryz.func124 Tryz.ntmps124 h ?_
 refine TTa 0 ⟨[(0,.v (.slice A n c)),(1,.v (.slice A' n' c'))],[]⟩ ?_
 refine TTe 1 [2] ?_
 refine RVc 2 125 (fun ρ=>[.slice A n c,.slice A' n' c']) [] (fun ρ w1 F1 hF1 hpk1=>?_)
 refine (bothN hF1 hNa hNb).mono ?_
 rintro e1 w'1 ⟨A5,n5,c5,A6,n6,c6,rfl,hN5,hN6,hl1⟩
 obtain rfl:n5=0:=hN5.len
 obtain ⟨b6,rfl⟩:=hN6.hd hy
 obtain rfl:n6=1:=by rw [hN6.len,wl_pos hy];rfl
 refine ⟨.v (.tuple #[.slice A5 0 c5,.slice (some ⟨b6,0,none⟩) 1 c6,.bool true]),_,rfl,hl1,?_⟩
 refine RVz ⟨[(0,.v (.slice A5 0 c5)),(1,.v (.slice (some ⟨b6,0,none⟩) 1 c6)),(6,VB true)],[]⟩ ?_
 refine TT.seq (TTa 0 ⟨[(0,.v (.slice A5 0 c5)),(1,.v (.slice (some ⟨b6,0,none⟩) 1 c6)),(20,VB false)],[]⟩ ?_)
 refine TTu (TT.next ?_)
 refine TT.seq (TTa 0 ⟨[(0,.v (.slice A5 0 c5)),(1,.v (.slice (some ⟨b6,0,none⟩) 1 c6)),(25,VB true)],[]⟩ ?_)
 refine TTy ?_
 refine TT.p0 (s':=⟨[(0,.v (.slice (some ⟨b6,0,none⟩) 1 c6)),(1,.v (.slice A5 0 c5))],[]⟩) 0 (by kernel_rfl) ?_
 refine TT.next ?_
 refine TTe 1 [3] ?_
 refine RV.mk (α:=Nat) (s:=1) (enc:=fun x:Nat=>[.int .u64 (x:Int)]) (E:=73) 3 70 2 0 (z:= .int .u64 0) (bytes:=8) (by kernel_rfl) (by kernel_rfl) (by kernel_rfl) (by kernel_rfl) (by kernel_rfl) rfl (by decide) (fun _=>rfl) (by decide) (by decide) (fun A7=>?_)
 refine RVz ⟨[(0,.v (.slice (some ⟨b6,0,none⟩) 1 c6)),(1,.v (.slice A5 0 c5)),(7,.v (.slice A7 2 2))],[]⟩ ?_
 refine TT.know (∃ b,A7=some ⟨b,0,none⟩) (fun w F h=>by obtain ⟨b,hb,_⟩:=slR_head (sepR_fst h).choose_spec (by decide);exact ⟨b,hb⟩) (fun hA7=>?_)
 obtain ⟨b7,rfl⟩:=hA7
 show TT _ _ _ _ (sepR (slW (some ⟨b7,0,none⟩) 2 2 [0,0]) (sepR (slW (some ⟨b6,0,none⟩) 1 c6 (wl y)) (sepR (slW A5 0 c5 (wl 0)) R))) _
 refine TTa 0 ⟨[(0,.v (.slice (some ⟨b6,0,none⟩) 1 c6)),(1,.v (.slice A5 0 c5)),(7,.v (.slice (some ⟨b7,0,none⟩) 2 2)),(8,VU 0)],[]⟩ ?_
 refine TT.seq (TTa 0 ⟨[(0,.v (.slice (some ⟨b6,0,none⟩) 1 c6)),(1,.v (.slice A5 0 c5)),(7,.v (.slice (some ⟨b7,0,none⟩) 2 2)),(8,VU 0),(32,.v (.slice (some ⟨b6,0,none⟩) 1 c6)),(33,V64 1),(34,V64 0)],[]⟩ ?_)
 refine TT.block ?_
 refine TT.unroll 2 ?_
 refine TTa 0 ⟨[(0,.v (.slice (some ⟨b6,0,none⟩) 1 c6)),(1,.v (.slice A5 0 c5)),(7,.v (.slice (some ⟨b7,0,none⟩) 2 2)),(8,VU 0),(32,.v (.slice (some ⟨b6,0,none⟩) 1 c6)),(33,V64 1),(34,V64 0),(35,VB true)],[]⟩ ?_
 refine TT.seq ?_
 refine TTy ?_
 refine TT.skip ?_
 refine TT.next ?_
 refine TT.seq ?_
 refine TT.block ?_
 refine TTe 2 [1,2] ?_
 refine RVd 1 (.idx 70 (.v (.slice (some ⟨b6,0,none⟩) 1 c6)) (V64 0)) (.v (.pointer (some ⟨b6,0+0*1,none⟩))) (fun ρ w F hF=>run_ixS (e:=73) (s:=1) (off:=0) 0 (by kernel_rfl) (by kernel_rfl) (by decide)) ?_
 refine RVd 2 (.load 73 (.v (.pointer (some ⟨b6,0+0*1,none⟩)))) (VU (y:Int)) (fun ρ w F hF=>run_ld (by kernel_rfl) (row_at (wl_pos hy▸hN6.row (sepR_fst (sepR_snd hF).choose_spec).choose_spec) (i:=0) rfl)) ?_
 refine RVz ⟨[(0,.v (.slice (some ⟨b6,0,none⟩) 1 c6)),(1,.v (.slice A5 0 c5)),(7,.v (.slice (some ⟨b7,0,none⟩) 2 2)),(8,VU 0),(9,V64 0),(10,VU (y:Int)),(32,.v (.slice (some ⟨b6,0,none⟩) 1 c6)),(33,V64 1),(34,V64 0)],[]⟩ ?_
 refine TTa 0 ⟨[(0,.v (.slice (some ⟨b6,0,none⟩) 1 c6)),(1,.v (.slice A5 0 c5)),(7,.v (.slice (some ⟨b7,0,none⟩) 2 2)),(8,VU 0),(9,V64 0),(10,VU (y:Int)),(11,VU 0),(32,.v (.slice (some ⟨b6,0,none⟩) 1 c6)),(33,V64 1),(34,V64 0)],[]⟩ ?_
 refine TT.seq (TTa 0 ⟨[(0,.v (.slice (some ⟨b6,0,none⟩) 1 c6)),(1,.v (.slice A5 0 c5)),(7,.v (.slice (some ⟨b7,0,none⟩) 2 2)),(8,VU 0),(9,V64 0),(10,VU (y:Int)),(11,VU 0),(32,.v (.slice (some ⟨b6,0,none⟩) 1 c6)),(33,V64 1),(34,V64 0),(42,VB false)],[]⟩ ?_)
 refine TTu (TT.next ?_)
 refine TT.r (m:=3) false [5,9,10] 0 mixed (by kernel_rfl) ?_
 refine RVext 5 127 [VU (y:Int),VU 0,VU 0] (.v (.tuple #[.int .u64 (y:Int),.int .u64 0])) (by kernel_rfl) (by kernel_rfl) (by kernel_rfl) (fun ρ w=>add64N y 0 y (by omega) (by omega) w) ?_
 refine RVd 9 (.idx 70 (.v (.slice (some ⟨b7,0,none⟩) 2 2)) (V64 0)) (.v (.pointer (some ⟨b7,0+0*1,none⟩))) (fun ρ w F hF=>run_ixS (e:=73) (s:=1) (off:=0) 0 (by kernel_rfl) (by kernel_rfl) (by decide)) ?_
 refine RVw 10 (.store 73 (.v (.pointer (some ⟨b7,0+0*1,none⟩))) (VU (y:Int))) (fun ρ w F hF=>⟨_,.v undef,sepR (slW (some ⟨b7,0,none⟩) 2 2 [y,0]) (sepR (slW (some ⟨b6,0,none⟩) 1 c6 (wl y)) (sepR (slW A5 0 c5 (wl 0)) R)),(slW_st 0 y hF (by decide)).1,(slW_st 0 y hF (by decide)).2,?_⟩)
 refine RV.fin (s':=⟨[(0,.v (.slice (some ⟨b6,0,none⟩) 1 c6)),(1,.v (.slice A5 0 c5)),(7,.v (.slice (some ⟨b7,0,none⟩) 2 2)),(8,VU 0),(32,.v (.slice (some ⟨b6,0,none⟩) 1 c6)),(33,V64 1),(34,V64 0)],[]⟩) (by kernel_rfl) (by kernel_rfl) ?_
 refine TT.next ?_
 refine TT.p0 (s':=⟨[(0,.v (.slice (some ⟨b6,0,none⟩) 1 c6)),(1,.v (.slice A5 0 c5)),(7,.v (.slice (some ⟨b7,0,none⟩) 2 2)),(8,VU 0),(32,.v (.slice (some ⟨b6,0,none⟩) 1 c6)),(33,V64 1),(34,V64 1)],[]⟩) 0 (by kernel_rfl) ?_
 refine TT.again ?_
 refine TTa 0 ⟨[(0,.v (.slice (some ⟨b6,0,none⟩) 1 c6)),(1,.v (.slice A5 0 c5)),(7,.v (.slice (some ⟨b7,0,none⟩) 2 2)),(8,VU 0),(32,.v (.slice (some ⟨b6,0,none⟩) 1 c6)),(33,V64 1),(34,V64 1),(35,VB false)],[]⟩ ?_
 refine TT.seq ?_
 refine TTn ?_
 refine TTx ?_
 refine TT.next ?_
 refine TTe 2 [4,5] ?_
 refine RVd 4 (.idx 70 (.v (.slice (some ⟨b7,0,none⟩) 2 2)) (V64 1)) (.v (.pointer (some ⟨b7,0+1*1,none⟩))) (fun ρ w F hF=>run_ixS (e:=73) (s:=1) (off:=0) 1 (by kernel_rfl) (by kernel_rfl) (by decide)) ?_
 refine RVw 5 (.store 73 (.v (.pointer (some ⟨b7,0+1*1,none⟩))) (VU 0)) (fun ρ w F hF=>⟨_,.v undef,sepR (slW (some ⟨b7,0,none⟩) 2 2 [y,0]) (sepR (slW (some ⟨b6,0,none⟩) 1 c6 (wl y)) (sepR (slW A5 0 c5 (wl 0)) R)),(slW_st 1 0 hF (by decide)).1,(slW_st 1 0 hF (by decide)).2,?_⟩)
 refine RVz ⟨[(7,.v (.slice (some ⟨b7,0,none⟩) 2 2))],[]⟩ ?_
 refine TTe 1 [1] ?_
 refine RVc 1 128 (fun ρ=>[.slice (some ⟨b7,0,none⟩) 2 2]) [] (fun ρ w2 F2 hF2 hpk2=>?_)
 refine (toldN (z:=y) hF2 (fun h=>norm_2 (x:=y) h hy hlt (by decide) (fun h=>slW_row (sepR_fst h).choose_spec))).mono ?_
 rintro e2 w'2 ⟨A8,n8,c8,rfl,hN8,hl2⟩
 refine ⟨.v (.tuple #[.slice A8 n8 c8,.bool true]),_,rfl,hl2,?_⟩
 refine RVz ⟨[(4,.v (.slice A8 n8 c8)),(5,VB true)],[]⟩ ?_
 refine TTt Tryz.results124 (.v (.slice A8 n8 c8)) (VB true) (fun _ _ h=>h) (fun ρ a w3 hs3=>?_)
 exact ⟨A8,n8,c8,rfl,hN8,hs3.lands.drop2.drop2.drop2⟩
set_option maxRecDepth 100000 in
set_option maxHeartbeats 2000000 in
theorem add_10 {R:Res} {F:List Nat} {w:World} {A:Option Addr} {n c:Nat} {A':Option Addr} {n' c':Nat} {x y:Nat} {z:Nat} (h:R.at_ w F) (hNa:NumIn R A n c x) (hNb:NumIn R A' n' c' 0) (hx:x≠0) (hlt:x<18446744073709551616):Calls Tryz.prog 124 #[.slice A n c,.slice A' n' c'] w (fun e w'=>∃(A:Option Addr) (n c:Nat),e = .returned (.tuple #[.slice A n c,.bool true])∧NumIn (slW A n c (wl x)) A n c x∧Lands (sepR (slW A n c (wl x)) R) F w w'):=by
 refine TTg [.v (.slice A n c),.v (.slice A' n' c')] Tryz.func124 Tryz.ntmps124 h ?_
 refine TTa 0 ⟨[(0,.v (.slice A n c)),(1,.v (.slice A' n' c'))],[]⟩ ?_
 refine TTe 1 [2] ?_
 refine RVc 2 125 (fun ρ=>[.slice A n c,.slice A' n' c']) [] (fun ρ w1 F1 hF1 hpk1=>?_)
 refine (bothN hF1 hNa hNb).mono ?_
 rintro e1 w'1 ⟨A5,n5,c5,A6,n6,c6,rfl,hN5,hN6,hl1⟩
 obtain ⟨b5,rfl⟩:=hN5.hd hx
 obtain rfl:n5=1:=by rw [hN5.len,wl_pos hx];rfl
 obtain rfl:n6=0:=hN6.len
 refine ⟨.v (.tuple #[.slice (some ⟨b5,0,none⟩) 1 c5,.slice A6 0 c6,.bool true]),_,rfl,hl1,?_⟩
 refine RVz ⟨[(0,.v (.slice (some ⟨b5,0,none⟩) 1 c5)),(1,.v (.slice A6 0 c6)),(6,VB true)],[]⟩ ?_
 refine TT.seq (TTa 0 ⟨[(0,.v (.slice (some ⟨b5,0,none⟩) 1 c5)),(1,.v (.slice A6 0 c6)),(20,VB false)],[]⟩ ?_)
 refine TTu (TT.next ?_)
 refine TT.seq (TTa 0 ⟨[(0,.v (.slice (some ⟨b5,0,none⟩) 1 c5)),(1,.v (.slice A6 0 c6)),(25,VB false)],[]⟩ ?_)
 refine TTu (TT.next ?_)
 refine TTe 1 [3] ?_
 refine RV.mk (α:=Nat) (s:=1) (enc:=fun x:Nat=>[.int .u64 (x:Int)]) (E:=73) 3 70 2 0 (z:= .int .u64 0) (bytes:=8) (by kernel_rfl) (by kernel_rfl) (by kernel_rfl) (by kernel_rfl) (by kernel_rfl) rfl (by decide) (fun _=>rfl) (by decide) (by decide) (fun A7=>?_)
 refine RVz ⟨[(0,.v (.slice (some ⟨b5,0,none⟩) 1 c5)),(1,.v (.slice A6 0 c6)),(7,.v (.slice A7 2 2))],[]⟩ ?_
 refine TT.know (∃ b,A7=some ⟨b,0,none⟩) (fun w F h=>by obtain ⟨b,hb,_⟩:=slR_head (sepR_fst h).choose_spec (by decide);exact ⟨b,hb⟩) (fun hA7=>?_)
 obtain ⟨b7,rfl⟩:=hA7
 show TT _ _ _ _ (sepR (slW (some ⟨b7,0,none⟩) 2 2 [0,0]) (sepR (slW A6 0 c6 (wl 0)) (sepR (slW (some ⟨b5,0,none⟩) 1 c5 (wl x)) R))) _
 refine TTa 0 ⟨[(0,.v (.slice (some ⟨b5,0,none⟩) 1 c5)),(1,.v (.slice A6 0 c6)),(7,.v (.slice (some ⟨b7,0,none⟩) 2 2)),(8,VU 0)],[]⟩ ?_
 refine TT.seq (TTa 0 ⟨[(0,.v (.slice (some ⟨b5,0,none⟩) 1 c5)),(1,.v (.slice A6 0 c6)),(7,.v (.slice (some ⟨b7,0,none⟩) 2 2)),(8,VU 0),(32,.v (.slice (some ⟨b5,0,none⟩) 1 c5)),(33,V64 1),(34,V64 0)],[]⟩ ?_)
 refine TT.block ?_
 refine TT.unroll 2 ?_
 refine TTa 0 ⟨[(0,.v (.slice (some ⟨b5,0,none⟩) 1 c5)),(1,.v (.slice A6 0 c6)),(7,.v (.slice (some ⟨b7,0,none⟩) 2 2)),(8,VU 0),(32,.v (.slice (some ⟨b5,0,none⟩) 1 c5)),(33,V64 1),(34,V64 0),(35,VB true)],[]⟩ ?_
 refine TT.seq ?_
 refine TTy ?_
 refine TT.skip ?_
 refine TT.next ?_
 refine TT.seq ?_
 refine TT.block ?_
 refine TTe 2 [1,2] ?_
 refine RVd 1 (.idx 70 (.v (.slice (some ⟨b5,0,none⟩) 1 c5)) (V64 0)) (.v (.pointer (some ⟨b5,0+0*1,none⟩))) (fun ρ w F hF=>run_ixS (e:=73) (s:=1) (off:=0) 0 (by kernel_rfl) (by kernel_rfl) (by decide)) ?_
 refine RVd 2 (.load 73 (.v (.pointer (some ⟨b5,0+0*1,none⟩)))) (VU (x:Int)) (fun ρ w F hF=>run_ld (by kernel_rfl) (row_at (wl_pos hx▸hN5.row (sepR_fst (sepR_snd (sepR_snd hF).choose_spec).choose_spec).choose_spec) (i:=0) rfl)) ?_
 refine RVz ⟨[(0,.v (.slice (some ⟨b5,0,none⟩) 1 c5)),(1,.v (.slice A6 0 c6)),(7,.v (.slice (some ⟨b7,0,none⟩) 2 2)),(8,VU 0),(9,V64 0),(10,VU (x:Int)),(32,.v (.slice (some ⟨b5,0,none⟩) 1 c5)),(33,V64 1),(34,V64 0)],[]⟩ ?_
 refine TTa 0 ⟨[(0,.v (.slice (some ⟨b5,0,none⟩) 1 c5)),(1,.v (.slice A6 0 c6)),(7,.v (.slice (some ⟨b7,0,none⟩) 2 2)),(8,VU 0),(9,V64 0),(10,VU (x:Int)),(11,VU 0),(32,.v (.slice (some ⟨b5,0,none⟩) 1 c5)),(33,V64 1),(34,V64 0)],[]⟩ ?_
 refine TT.seq (TTa 0 ⟨[(0,.v (.slice (some ⟨b5,0,none⟩) 1 c5)),(1,.v (.slice A6 0 c6)),(7,.v (.slice (some ⟨b7,0,none⟩) 2 2)),(8,VU 0),(9,V64 0),(10,VU (x:Int)),(11,VU 0),(32,.v (.slice (some ⟨b5,0,none⟩) 1 c5)),(33,V64 1),(34,V64 0),(42,VB false)],[]⟩ ?_)
 refine TTu (TT.next ?_)
 refine TT.r (m:=3) false [5,9,10] 0 mixed (by kernel_rfl) ?_
 refine RVext 5 127 [VU (x:Int),VU 0,VU 0] (.v (.tuple #[.int .u64 (x:Int),.int .u64 0])) (by kernel_rfl) (by kernel_rfl) (by kernel_rfl) (fun ρ w=>add64N x 0 x (by omega) (by omega) w) ?_
 refine RVd 9 (.idx 70 (.v (.slice (some ⟨b7,0,none⟩) 2 2)) (V64 0)) (.v (.pointer (some ⟨b7,0+0*1,none⟩))) (fun ρ w F hF=>run_ixS (e:=73) (s:=1) (off:=0) 0 (by kernel_rfl) (by kernel_rfl) (by decide)) ?_
 refine RVw 10 (.store 73 (.v (.pointer (some ⟨b7,0+0*1,none⟩))) (VU (x:Int))) (fun ρ w F hF=>⟨_,.v undef,sepR (slW (some ⟨b7,0,none⟩) 2 2 [x,0]) (sepR (slW A6 0 c6 (wl 0)) (sepR (slW (some ⟨b5,0,none⟩) 1 c5 (wl x)) R)),(slW_st 0 x hF (by decide)).1,(slW_st 0 x hF (by decide)).2,?_⟩)
 refine RV.fin (s':=⟨[(0,.v (.slice (some ⟨b5,0,none⟩) 1 c5)),(1,.v (.slice A6 0 c6)),(7,.v (.slice (some ⟨b7,0,none⟩) 2 2)),(8,VU 0),(32,.v (.slice (some ⟨b5,0,none⟩) 1 c5)),(33,V64 1),(34,V64 0)],[]⟩) (by kernel_rfl) (by kernel_rfl) ?_
 refine TT.next ?_
 refine TT.p0 (s':=⟨[(0,.v (.slice (some ⟨b5,0,none⟩) 1 c5)),(1,.v (.slice A6 0 c6)),(7,.v (.slice (some ⟨b7,0,none⟩) 2 2)),(8,VU 0),(32,.v (.slice (some ⟨b5,0,none⟩) 1 c5)),(33,V64 1),(34,V64 1)],[]⟩) 0 (by kernel_rfl) ?_
 refine TT.again ?_
 refine TTa 0 ⟨[(0,.v (.slice (some ⟨b5,0,none⟩) 1 c5)),(1,.v (.slice A6 0 c6)),(7,.v (.slice (some ⟨b7,0,none⟩) 2 2)),(8,VU 0),(32,.v (.slice (some ⟨b5,0,none⟩) 1 c5)),(33,V64 1),(34,V64 1),(35,VB false)],[]⟩ ?_
 refine TT.seq ?_
 refine TTn ?_
 refine TTx ?_
 refine TT.next ?_
 refine TTe 2 [4,5] ?_
 refine RVd 4 (.idx 70 (.v (.slice (some ⟨b7,0,none⟩) 2 2)) (V64 1)) (.v (.pointer (some ⟨b7,0+1*1,none⟩))) (fun ρ w F hF=>run_ixS (e:=73) (s:=1) (off:=0) 1 (by kernel_rfl) (by kernel_rfl) (by decide)) ?_
 refine RVw 5 (.store 73 (.v (.pointer (some ⟨b7,0+1*1,none⟩))) (VU 0)) (fun ρ w F hF=>⟨_,.v undef,sepR (slW (some ⟨b7,0,none⟩) 2 2 [x,0]) (sepR (slW A6 0 c6 (wl 0)) (sepR (slW (some ⟨b5,0,none⟩) 1 c5 (wl x)) R)),(slW_st 1 0 hF (by decide)).1,(slW_st 1 0 hF (by decide)).2,?_⟩)
 refine RVz ⟨[(7,.v (.slice (some ⟨b7,0,none⟩) 2 2))],[]⟩ ?_
 refine TTe 1 [1] ?_
 refine RVc 1 128 (fun ρ=>[.slice (some ⟨b7,0,none⟩) 2 2]) [] (fun ρ w2 F2 hF2 hpk2=>?_)
 refine (toldN (z:=x) hF2 (fun h=>norm_2 (x:=x) h hx hlt (by decide) (fun h=>slW_row (sepR_fst h).choose_spec))).mono ?_
 rintro e2 w'2 ⟨A8,n8,c8,rfl,hN8,hl2⟩
 refine ⟨.v (.tuple #[.slice A8 n8 c8,.bool true]),_,rfl,hl2,?_⟩
 refine RVz ⟨[(4,.v (.slice A8 n8 c8)),(5,VB true)],[]⟩ ?_
 refine TTt Tryz.results124 (.v (.slice A8 n8 c8)) (VB true) (fun _ _ h=>h) (fun ρ a w3 hs3=>?_)
 exact ⟨A8,n8,c8,rfl,hN8,hs3.lands.drop2.drop2.drop2⟩
set_option maxRecDepth 100000 in
set_option maxHeartbeats 2000000 in
theorem add_11 {R:Res} {F:List Nat} {w:World} {A:Option Addr} {n c:Nat} {A':Option Addr} {n' c':Nat} {x y:Nat} {z:Nat} (h:R.at_ w F) (hNa:NumIn R A n c x) (hNb:NumIn R A' n' c' y) (hx:x≠0) (hy:y≠0) (hlt:z<18446744073709551616) (hzd:x+y=z):Calls Tryz.prog 124 #[.slice A n c,.slice A' n' c'] w (fun e w'=>∃(A:Option Addr) (n c:Nat),e = .returned (.tuple #[.slice A n c,.bool true])∧NumIn (slW A n c (wl z)) A n c z∧Lands (sepR (slW A n c (wl z)) R) F w w'):=by
 have hz:z≠0:=by omega
 refine TTg [.v (.slice A n c),.v (.slice A' n' c')] Tryz.func124 Tryz.ntmps124 h ?_
 refine TTa 0 ⟨[(0,.v (.slice A n c)),(1,.v (.slice A' n' c'))],[]⟩ ?_
 refine TTe 1 [2] ?_
 refine RVc 2 125 (fun ρ=>[.slice A n c,.slice A' n' c']) [] (fun ρ w1 F1 hF1 hpk1=>?_)
 refine (bothN hF1 hNa hNb).mono ?_
 rintro e1 w'1 ⟨A5,n5,c5,A6,n6,c6,rfl,hN5,hN6,hl1⟩
 obtain ⟨b5,rfl⟩:=hN5.hd hx
 obtain rfl:n5=1:=by rw [hN5.len,wl_pos hx];rfl
 obtain ⟨b6,rfl⟩:=hN6.hd hy
 obtain rfl:n6=1:=by rw [hN6.len,wl_pos hy];rfl
 refine ⟨.v (.tuple #[.slice (some ⟨b5,0,none⟩) 1 c5,.slice (some ⟨b6,0,none⟩) 1 c6,.bool true]),_,rfl,hl1,?_⟩
 refine RVz ⟨[(0,.v (.slice (some ⟨b5,0,none⟩) 1 c5)),(1,.v (.slice (some ⟨b6,0,none⟩) 1 c6)),(6,VB true)],[]⟩ ?_
 refine TT.seq (TTa 0 ⟨[(0,.v (.slice (some ⟨b5,0,none⟩) 1 c5)),(1,.v (.slice (some ⟨b6,0,none⟩) 1 c6)),(20,VB false)],[]⟩ ?_)
 refine TTu (TT.next ?_)
 refine TT.seq (TTa 0 ⟨[(0,.v (.slice (some ⟨b5,0,none⟩) 1 c5)),(1,.v (.slice (some ⟨b6,0,none⟩) 1 c6)),(25,VB false)],[]⟩ ?_)
 refine TTu (TT.next ?_)
 refine TTe 1 [3] ?_
 refine RV.mk (α:=Nat) (s:=1) (enc:=fun x:Nat=>[.int .u64 (x:Int)]) (E:=73) 3 70 2 0 (z:= .int .u64 0) (bytes:=8) (by kernel_rfl) (by kernel_rfl) (by kernel_rfl) (by kernel_rfl) (by kernel_rfl) rfl (by decide) (fun _=>rfl) (by decide) (by decide) (fun A7=>?_)
 refine RVz ⟨[(0,.v (.slice (some ⟨b5,0,none⟩) 1 c5)),(1,.v (.slice (some ⟨b6,0,none⟩) 1 c6)),(7,.v (.slice A7 2 2))],[]⟩ ?_
 refine TT.know (∃ b,A7=some ⟨b,0,none⟩) (fun w F h=>by obtain ⟨b,hb,_⟩:=slR_head (sepR_fst h).choose_spec (by decide);exact ⟨b,hb⟩) (fun hA7=>?_)
 obtain ⟨b7,rfl⟩:=hA7
 show TT _ _ _ _ (sepR (slW (some ⟨b7,0,none⟩) 2 2 [0,0]) (sepR (slW (some ⟨b6,0,none⟩) 1 c6 (wl y)) (sepR (slW (some ⟨b5,0,none⟩) 1 c5 (wl x)) R))) _
 refine TTa 0 ⟨[(0,.v (.slice (some ⟨b5,0,none⟩) 1 c5)),(1,.v (.slice (some ⟨b6,0,none⟩) 1 c6)),(7,.v (.slice (some ⟨b7,0,none⟩) 2 2)),(8,VU 0)],[]⟩ ?_
 refine TT.seq (TTa 0 ⟨[(0,.v (.slice (some ⟨b5,0,none⟩) 1 c5)),(1,.v (.slice (some ⟨b6,0,none⟩) 1 c6)),(7,.v (.slice (some ⟨b7,0,none⟩) 2 2)),(8,VU 0),(32,.v (.slice (some ⟨b5,0,none⟩) 1 c5)),(33,V64 1),(34,V64 0)],[]⟩ ?_)
 refine TT.block ?_
 refine TT.unroll 2 ?_
 refine TTa 0 ⟨[(0,.v (.slice (some ⟨b5,0,none⟩) 1 c5)),(1,.v (.slice (some ⟨b6,0,none⟩) 1 c6)),(7,.v (.slice (some ⟨b7,0,none⟩) 2 2)),(8,VU 0),(32,.v (.slice (some ⟨b5,0,none⟩) 1 c5)),(33,V64 1),(34,V64 0),(35,VB true)],[]⟩ ?_
 refine TT.seq ?_
 refine TTy ?_
 refine TT.skip ?_
 refine TT.next ?_
 refine TT.seq ?_
 refine TT.block ?_
 refine TTe 2 [1,2] ?_
 refine RVd 1 (.idx 70 (.v (.slice (some ⟨b5,0,none⟩) 1 c5)) (V64 0)) (.v (.pointer (some ⟨b5,0+0*1,none⟩))) (fun ρ w F hF=>run_ixS (e:=73) (s:=1) (off:=0) 0 (by kernel_rfl) (by kernel_rfl) (by decide)) ?_
 refine RVd 2 (.load 73 (.v (.pointer (some ⟨b5,0+0*1,none⟩)))) (VU (x:Int)) (fun ρ w F hF=>run_ld (by kernel_rfl) (row_at (wl_pos hx▸hN5.row (sepR_fst (sepR_snd (sepR_snd hF).choose_spec).choose_spec).choose_spec) (i:=0) rfl)) ?_
 refine RVz ⟨[(0,.v (.slice (some ⟨b5,0,none⟩) 1 c5)),(1,.v (.slice (some ⟨b6,0,none⟩) 1 c6)),(7,.v (.slice (some ⟨b7,0,none⟩) 2 2)),(8,VU 0),(9,V64 0),(10,VU (x:Int)),(32,.v (.slice (some ⟨b5,0,none⟩) 1 c5)),(33,V64 1),(34,V64 0)],[]⟩ ?_
 refine TTa 0 ⟨[(0,.v (.slice (some ⟨b5,0,none⟩) 1 c5)),(1,.v (.slice (some ⟨b6,0,none⟩) 1 c6)),(7,.v (.slice (some ⟨b7,0,none⟩) 2 2)),(8,VU 0),(9,V64 0),(10,VU (x:Int)),(11,VU 0),(32,.v (.slice (some ⟨b5,0,none⟩) 1 c5)),(33,V64 1),(34,V64 0)],[]⟩ ?_
 refine TT.seq (TTa 0 ⟨[(0,.v (.slice (some ⟨b5,0,none⟩) 1 c5)),(1,.v (.slice (some ⟨b6,0,none⟩) 1 c6)),(7,.v (.slice (some ⟨b7,0,none⟩) 2 2)),(8,VU 0),(9,V64 0),(10,VU (x:Int)),(11,VU 0),(32,.v (.slice (some ⟨b5,0,none⟩) 1 c5)),(33,V64 1),(34,V64 0),(42,VB true)],[]⟩ ?_)
 refine TTy ?_
 refine TT.r (m:=2) false [2,3] 0 mixed (by kernel_rfl) ?_
 refine RVd 2 (.idx 70 (.v (.slice (some ⟨b6,0,none⟩) 1 c6)) (V64 0)) (.v (.pointer (some ⟨b6,0+0*1,none⟩))) (fun ρ w F hF=>run_ixS (e:=73) (s:=1) (off:=0) 0 (by kernel_rfl) (by kernel_rfl) (by decide)) ?_
 refine RVd 3 (.load 73 (.v (.pointer (some ⟨b6,0+0*1,none⟩)))) (VU (y:Int)) (fun ρ w F hF=>run_ld (by kernel_rfl) (row_at (wl_pos hy▸hN6.row (sepR_fst (sepR_snd hF).choose_spec).choose_spec) (i:=0) rfl)) ?_
 refine RV.fin (s':=⟨[(0,.v (.slice (some ⟨b5,0,none⟩) 1 c5)),(1,.v (.slice (some ⟨b6,0,none⟩) 1 c6)),(7,.v (.slice (some ⟨b7,0,none⟩) 2 2)),(8,VU 0),(9,V64 0),(10,VU (x:Int)),(11,VU (y:Int)),(32,.v (.slice (some ⟨b5,0,none⟩) 1 c5)),(33,V64 1),(34,V64 0)],[]⟩) (by kernel_rfl) (by kernel_rfl) ?_
 refine TT.next ?_
 refine TT.r (m:=3) false [5,9,10] 0 mixed (by kernel_rfl) ?_
 refine RVext 5 127 [VU (x:Int),VU (y:Int),VU 0] (.v (.tuple #[.int .u64 (z:Int),.int .u64 0])) (by kernel_rfl) (by kernel_rfl) (by kernel_rfl) (fun ρ w=>add64N x y z (by omega) (by omega) w) ?_
 refine RVd 9 (.idx 70 (.v (.slice (some ⟨b7,0,none⟩) 2 2)) (V64 0)) (.v (.pointer (some ⟨b7,0+0*1,none⟩))) (fun ρ w F hF=>run_ixS (e:=73) (s:=1) (off:=0) 0 (by kernel_rfl) (by kernel_rfl) (by decide)) ?_
 refine RVw 10 (.store 73 (.v (.pointer (some ⟨b7,0+0*1,none⟩))) (VU (z:Int))) (fun ρ w F hF=>⟨_,.v undef,sepR (slW (some ⟨b7,0,none⟩) 2 2 [z,0]) (sepR (slW (some ⟨b6,0,none⟩) 1 c6 (wl y)) (sepR (slW (some ⟨b5,0,none⟩) 1 c5 (wl x)) R)),(slW_st 0 z hF (by decide)).1,(slW_st 0 z hF (by decide)).2,?_⟩)
 refine RV.fin (s':=⟨[(0,.v (.slice (some ⟨b5,0,none⟩) 1 c5)),(1,.v (.slice (some ⟨b6,0,none⟩) 1 c6)),(7,.v (.slice (some ⟨b7,0,none⟩) 2 2)),(8,VU 0),(32,.v (.slice (some ⟨b5,0,none⟩) 1 c5)),(33,V64 1),(34,V64 0)],[]⟩) (by kernel_rfl) (by kernel_rfl) ?_
 refine TT.next ?_
 refine TT.p0 (s':=⟨[(0,.v (.slice (some ⟨b5,0,none⟩) 1 c5)),(1,.v (.slice (some ⟨b6,0,none⟩) 1 c6)),(7,.v (.slice (some ⟨b7,0,none⟩) 2 2)),(8,VU 0),(32,.v (.slice (some ⟨b5,0,none⟩) 1 c5)),(33,V64 1),(34,V64 1)],[]⟩) 0 (by kernel_rfl) ?_
 refine TT.again ?_
 refine TTa 0 ⟨[(0,.v (.slice (some ⟨b5,0,none⟩) 1 c5)),(1,.v (.slice (some ⟨b6,0,none⟩) 1 c6)),(7,.v (.slice (some ⟨b7,0,none⟩) 2 2)),(8,VU 0),(32,.v (.slice (some ⟨b5,0,none⟩) 1 c5)),(33,V64 1),(34,V64 1),(35,VB false)],[]⟩ ?_
 refine TT.seq ?_
 refine TTn ?_
 refine TTx ?_
 refine TT.next ?_
 refine TTe 2 [4,5] ?_
 refine RVd 4 (.idx 70 (.v (.slice (some ⟨b7,0,none⟩) 2 2)) (V64 1)) (.v (.pointer (some ⟨b7,0+1*1,none⟩))) (fun ρ w F hF=>run_ixS (e:=73) (s:=1) (off:=0) 1 (by kernel_rfl) (by kernel_rfl) (by decide)) ?_
 refine RVw 5 (.store 73 (.v (.pointer (some ⟨b7,0+1*1,none⟩))) (VU 0)) (fun ρ w F hF=>⟨_,.v undef,sepR (slW (some ⟨b7,0,none⟩) 2 2 [z,0]) (sepR (slW (some ⟨b6,0,none⟩) 1 c6 (wl y)) (sepR (slW (some ⟨b5,0,none⟩) 1 c5 (wl x)) R)),(slW_st 1 0 hF (by decide)).1,(slW_st 1 0 hF (by decide)).2,?_⟩)
 refine RVz ⟨[(7,.v (.slice (some ⟨b7,0,none⟩) 2 2))],[]⟩ ?_
 refine TTe 1 [1] ?_
 refine RVc 1 128 (fun ρ=>[.slice (some ⟨b7,0,none⟩) 2 2]) [] (fun ρ w2 F2 hF2 hpk2=>?_)
 refine (toldN (z:=z) hF2 (fun h=>norm_2 (x:=z) h hz hlt (by decide) (fun h=>slW_row (sepR_fst h).choose_spec))).mono ?_
 rintro e2 w'2 ⟨A8,n8,c8,rfl,hN8,hl2⟩
 refine ⟨.v (.tuple #[.slice A8 n8 c8,.bool true]),_,rfl,hl2,?_⟩
 refine RVz ⟨[(4,.v (.slice A8 n8 c8)),(5,VB true)],[]⟩ ?_
 refine TTt Tryz.results124 (.v (.slice A8 n8 c8)) (VB true) (fun _ _ h=>h) (fun ρ a w3 hs3=>?_)
 exact ⟨A8,n8,c8,rfl,hN8,hs3.lands.drop2.drop2.drop2⟩
set_option maxRecDepth 100000 in
set_option maxHeartbeats 2000000 in
theorem mul_10 {R:Res} {F:List Nat} {w:World} {A:Option Addr} {n c:Nat} {A':Option Addr} {n' c':Nat} {x y:Nat} {z:Nat} (h:R.at_ w F) (hNa:NumIn R A n c x) (hNb:NumIn R A' n' c' 0) (hx:x≠0):Calls Tryz.prog 107 #[.slice A n c,.slice A' n' c'] w (fun e w'=>∃(A:Option Addr) (n c:Nat),e = .returned (.tuple #[.slice A n c,.bool true])∧NumIn (slW A n c (wl 0)) A n c 0∧Lands (sepR (slW A n c (wl 0)) R) F w w'):=by
 refine TTg [.v (.slice A n c),.v (.slice A' n' c')] Tryz.func107 Tryz.ntmps107 h ?_
 refine TTa 0 ⟨[(0,.v (.slice A n c)),(1,.v (.slice A' n' c'))],[]⟩ ?_
 refine TTe 1 [2] ?_
 refine RVc 2 125 (fun ρ=>[.slice A n c,.slice A' n' c']) [] (fun ρ w1 F1 hF1 hpk1=>?_)
 refine (bothN hF1 hNa hNb).mono ?_
 rintro e1 w'1 ⟨A5,n5,c5,A6,n6,c6,rfl,hN5,hN6,hl1⟩
 obtain ⟨b5,rfl⟩:=hN5.hd hx
 obtain rfl:n5=1:=by rw [hN5.len,wl_pos hx];rfl
 obtain rfl:n6=0:=hN6.len
 refine ⟨.v (.tuple #[.slice (some ⟨b5,0,none⟩) 1 c5,.slice A6 0 c6,.bool true]),_,rfl,hl1,?_⟩
 refine RVz ⟨[(0,.v (.slice (some ⟨b5,0,none⟩) 1 c5)),(1,.v (.slice A6 0 c6)),(6,VB true)],[]⟩ ?_
 refine TT.seq (TTa 0 ⟨[(0,.v (.slice (some ⟨b5,0,none⟩) 1 c5)),(1,.v (.slice A6 0 c6)),(24,VB false)],[]⟩ ?_)
 refine TTu (TT.next ?_)
 refine TTe 1 [5] ?_
 refine RV.mk (α:=Nat) (s:=1) (enc:=fun x:Nat=>[.int .u64 (x:Int)]) (E:=73) 5 70 1 0 (z:= .int .u64 0) (bytes:=8) (by kernel_rfl) (by kernel_rfl) (by kernel_rfl) (by kernel_rfl) (by kernel_rfl) rfl (by decide) (fun _=>rfl) (by decide) (by decide) (fun A7=>?_)
 refine RVz ⟨[(0,.v (.slice (some ⟨b5,0,none⟩) 1 c5)),(1,.v (.slice A6 0 c6)),(7,.v (.slice A7 1 1))],[]⟩ ?_
 refine TT.seq ?_
 refine TT.know (∃ b,A7=some ⟨b,0,none⟩) (fun w F h=>by obtain ⟨b,hb,_⟩:=slR_head (sepR_fst h).choose_spec (by decide);exact ⟨b,hb⟩) (fun hA7=>?_)
 obtain ⟨b7,rfl⟩:=hA7
 show TT _ _ _ _ (sepR (slW (some ⟨b7,0,none⟩) 1 1 [0]) (sepR (slW A6 0 c6 (wl 0)) (sepR (slW (some ⟨b5,0,none⟩) 1 c5 (wl x)) R))) _
 refine TTa 0 ⟨[(1,.v (.slice A6 0 c6)),(7,.v (.slice (some ⟨b7,0,none⟩) 1 1)),(31,.v (.slice (some ⟨b5,0,none⟩) 1 c5)),(32,V64 1),(33,V64 0)],[]⟩ ?_
 refine TT.block ?_
 refine TT.unroll 2 ?_
 refine TTa 0 ⟨[(1,.v (.slice A6 0 c6)),(7,.v (.slice (some ⟨b7,0,none⟩) 1 1)),(31,.v (.slice (some ⟨b5,0,none⟩) 1 c5)),(32,V64 1),(33,V64 0),(34,VB true)],[]⟩ ?_
 refine TT.seq ?_
 refine TTy ?_
 refine TT.skip ?_
 refine TT.next ?_
 refine TT.seq ?_
 refine TT.block ?_
 refine TTe 2 [1,2] ?_
 refine RVd 1 (.idx 70 (.v (.slice (some ⟨b5,0,none⟩) 1 c5)) (V64 0)) (.v (.pointer (some ⟨b5,0+0*1,none⟩))) (fun ρ w F hF=>run_ixS (e:=73) (s:=1) (off:=0) 0 (by kernel_rfl) (by kernel_rfl) (by decide)) ?_
 refine RVd 2 (.load 73 (.v (.pointer (some ⟨b5,0+0*1,none⟩)))) (VU (x:Int)) (fun ρ w F hF=>run_ld (by kernel_rfl) (row_at (wl_pos hx▸hN5.row (sepR_fst (sepR_snd (sepR_snd hF).choose_spec).choose_spec).choose_spec) (i:=0) rfl)) ?_
 refine RVz ⟨[(1,.v (.slice A6 0 c6)),(7,.v (.slice (some ⟨b7,0,none⟩) 1 1)),(8,V64 0),(9,VU (x:Int)),(31,.v (.slice (some ⟨b5,0,none⟩) 1 c5)),(32,V64 1),(33,V64 0)],[]⟩ ?_
 refine TTa 0 ⟨[(1,.v (.slice A6 0 c6)),(7,.v (.slice (some ⟨b7,0,none⟩) 1 1)),(8,V64 0),(9,VU (x:Int)),(10,VU 0),(31,.v (.slice (some ⟨b5,0,none⟩) 1 c5)),(32,V64 1),(33,V64 0)],[]⟩ ?_
 refine TT.seq (TTa 0 ⟨[(1,.v (.slice A6 0 c6)),(7,.v (.slice (some ⟨b7,0,none⟩) 1 1)),(8,V64 0),(9,VU (x:Int)),(10,VU 0),(31,.v (.slice (some ⟨b5,0,none⟩) 1 c5)),(32,V64 1),(33,V64 0),(38,.v (.slice A6 0 c6)),(39,V64 0),(40,V64 0)],[]⟩ ?_)
 refine TT.block ?_
 refine TT.unroll 2 ?_
 refine TTa 0 ⟨[(1,.v (.slice A6 0 c6)),(7,.v (.slice (some ⟨b7,0,none⟩) 1 1)),(8,V64 0),(9,VU (x:Int)),(10,VU 0),(31,.v (.slice (some ⟨b5,0,none⟩) 1 c5)),(32,V64 1),(33,V64 0),(38,.v (.slice A6 0 c6)),(39,V64 0),(40,V64 0),(41,VB false)],[]⟩ ?_
 refine TT.seq ?_
 refine TTn ?_
 refine TTx ?_
 refine TT.next ?_
 refine TT.r (m:=2) false [6,7] 0 mixed (by kernel_rfl) ?_
 refine RVd 6 (.idx 70 (.v (.slice (some ⟨b7,0,none⟩) 1 1)) (V64 0)) (.v (.pointer (some ⟨b7,0+0*1,none⟩))) (fun ρ w F hF=>run_ixS (e:=73) (s:=1) (off:=0) 0 (by kernel_rfl) (by kernel_rfl) (by decide)) ?_
 refine RVw 7 (.store 73 (.v (.pointer (some ⟨b7,0+0*1,none⟩))) (VU 0)) (fun ρ w F hF=>⟨_,.v undef,sepR (slW (some ⟨b7,0,none⟩) 1 1 [0]) (sepR (slW A6 0 c6 (wl 0)) (sepR (slW (some ⟨b5,0,none⟩) 1 c5 (wl x)) R)),(slW_st 0 0 hF (by decide)).1,(slW_st 0 0 hF (by decide)).2,?_⟩)
 refine RV.fin (s':=⟨[(1,.v (.slice A6 0 c6)),(7,.v (.slice (some ⟨b7,0,none⟩) 1 1)),(31,.v (.slice (some ⟨b5,0,none⟩) 1 c5)),(32,V64 1),(33,V64 0)],[]⟩) (by kernel_rfl) (by kernel_rfl) ?_
 refine TT.next ?_
 refine TT.p0 (s':=⟨[(1,.v (.slice A6 0 c6)),(7,.v (.slice (some ⟨b7,0,none⟩) 1 1)),(31,.v (.slice (some ⟨b5,0,none⟩) 1 c5)),(32,V64 1),(33,V64 1)],[]⟩) 0 (by kernel_rfl) ?_
 refine TT.again ?_
 refine TTa 0 ⟨[(1,.v (.slice A6 0 c6)),(7,.v (.slice (some ⟨b7,0,none⟩) 1 1)),(31,.v (.slice (some ⟨b5,0,none⟩) 1 c5)),(32,V64 1),(33,V64 1),(34,VB false)],[]⟩ ?_
 refine TT.seq ?_
 refine TTn ?_
 refine TTx ?_
 refine TT.next ?_
 refine TTe 1 [1] ?_
 refine RVc 1 128 (fun ρ=>[.slice (some ⟨b7,0,none⟩) 1 1]) [] (fun ρ w2 F2 hF2 hpk2=>?_)
 refine (toldN (z:=0) hF2 (fun h=>norm_z h (by decide) (fun h=>slW_row (sepR_fst h).choose_spec))).mono ?_
 rintro e2 w'2 ⟨A8,n8,c8,rfl,hN8,hl2⟩
 refine ⟨.v (.tuple #[.slice A8 n8 c8,.bool true]),_,rfl,hl2,?_⟩
 refine RVz ⟨[(4,.v (.slice A8 n8 c8)),(5,VB true)],[]⟩ ?_
 refine TTt Tryz.results107 (.v (.slice A8 n8 c8)) (VB true) (fun _ _ h=>h) (fun ρ a w3 hs3=>?_)
 exact ⟨A8,n8,c8,rfl,hN8,hs3.lands.drop2.drop2.drop2⟩
set_option maxRecDepth 100000 in
set_option maxHeartbeats 2000000 in
theorem mul_11 {R:Res} {F:List Nat} {w:World} {A:Option Addr} {n c:Nat} {A':Option Addr} {n' c':Nat} {x y:Nat} {z:Nat} (h:R.at_ w F) (hNa:NumIn R A n c x) (hNb:NumIn R A' n' c' y) (hx:x≠0) (hy:y≠0) (hzd:x*y=z) (hlt:z<18446744073709551616):Calls Tryz.prog 107 #[.slice A n c,.slice A' n' c'] w (fun e w'=>∃(A:Option Addr) (n c:Nat),e = .returned (.tuple #[.slice A n c,.bool true])∧NumIn (slW A n c (wl z)) A n c z∧Lands (sepR (slW A n c (wl z)) R) F w w'):=by
 have hz:z≠0:=by rw [← hzd];exact Nat.mul_ne_zero hx hy
 have hxl:=hNa.lt
 have hyl:=hNb.lt
 refine TTg [.v (.slice A n c),.v (.slice A' n' c')] Tryz.func107 Tryz.ntmps107 h ?_
 refine TTa 0 ⟨[(0,.v (.slice A n c)),(1,.v (.slice A' n' c'))],[]⟩ ?_
 refine TTe 1 [2] ?_
 refine RVc 2 125 (fun ρ=>[.slice A n c,.slice A' n' c']) [] (fun ρ w1 F1 hF1 hpk1=>?_)
 refine (bothN hF1 hNa hNb).mono ?_
 rintro e1 w'1 ⟨A5,n5,c5,A6,n6,c6,rfl,hN5,hN6,hl1⟩
 obtain ⟨b5,rfl⟩:=hN5.hd hx
 obtain rfl:n5=1:=by rw [hN5.len,wl_pos hx];rfl
 obtain ⟨b6,rfl⟩:=hN6.hd hy
 obtain rfl:n6=1:=by rw [hN6.len,wl_pos hy];rfl
 refine ⟨.v (.tuple #[.slice (some ⟨b5,0,none⟩) 1 c5,.slice (some ⟨b6,0,none⟩) 1 c6,.bool true]),_,rfl,hl1,?_⟩
 refine RVz ⟨[(0,.v (.slice (some ⟨b5,0,none⟩) 1 c5)),(1,.v (.slice (some ⟨b6,0,none⟩) 1 c6)),(6,VB true)],[]⟩ ?_
 refine TT.seq (TTa 0 ⟨[(0,.v (.slice (some ⟨b5,0,none⟩) 1 c5)),(1,.v (.slice (some ⟨b6,0,none⟩) 1 c6)),(24,VB false)],[]⟩ ?_)
 refine TTu (TT.next ?_)
 refine TTe 1 [5] ?_
 refine RV.mk (α:=Nat) (s:=1) (enc:=fun x:Nat=>[.int .u64 (x:Int)]) (E:=73) 5 70 2 0 (z:= .int .u64 0) (bytes:=8) (by kernel_rfl) (by kernel_rfl) (by kernel_rfl) (by kernel_rfl) (by kernel_rfl) rfl (by decide) (fun _=>rfl) (by decide) (by decide) (fun A7=>?_)
 refine RVz ⟨[(0,.v (.slice (some ⟨b5,0,none⟩) 1 c5)),(1,.v (.slice (some ⟨b6,0,none⟩) 1 c6)),(7,.v (.slice A7 2 2))],[]⟩ ?_
 refine TT.seq ?_
 refine TT.know (∃ b,A7=some ⟨b,0,none⟩) (fun w F h=>by obtain ⟨b,hb,_⟩:=slR_head (sepR_fst h).choose_spec (by decide);exact ⟨b,hb⟩) (fun hA7=>?_)
 obtain ⟨b7,rfl⟩:=hA7
 show TT _ _ _ _ (sepR (slW (some ⟨b7,0,none⟩) 2 2 [0,0]) (sepR (slW (some ⟨b6,0,none⟩) 1 c6 (wl y)) (sepR (slW (some ⟨b5,0,none⟩) 1 c5 (wl x)) R))) _
 refine TTa 0 ⟨[(1,.v (.slice (some ⟨b6,0,none⟩) 1 c6)),(7,.v (.slice (some ⟨b7,0,none⟩) 2 2)),(31,.v (.slice (some ⟨b5,0,none⟩) 1 c5)),(32,V64 1),(33,V64 0)],[]⟩ ?_
 refine TT.block ?_
 refine TT.unroll 2 ?_
 refine TTa 0 ⟨[(1,.v (.slice (some ⟨b6,0,none⟩) 1 c6)),(7,.v (.slice (some ⟨b7,0,none⟩) 2 2)),(31,.v (.slice (some ⟨b5,0,none⟩) 1 c5)),(32,V64 1),(33,V64 0),(34,VB true)],[]⟩ ?_
 refine TT.seq ?_
 refine TTy ?_
 refine TT.skip ?_
 refine TT.next ?_
 refine TT.seq ?_
 refine TT.block ?_
 refine TTe 2 [1,2] ?_
 refine RVd 1 (.idx 70 (.v (.slice (some ⟨b5,0,none⟩) 1 c5)) (V64 0)) (.v (.pointer (some ⟨b5,0+0*1,none⟩))) (fun ρ w F hF=>run_ixS (e:=73) (s:=1) (off:=0) 0 (by kernel_rfl) (by kernel_rfl) (by decide)) ?_
 refine RVd 2 (.load 73 (.v (.pointer (some ⟨b5,0+0*1,none⟩)))) (VU (x:Int)) (fun ρ w F hF=>run_ld (by kernel_rfl) (row_at (wl_pos hx▸hN5.row (sepR_fst (sepR_snd (sepR_snd hF).choose_spec).choose_spec).choose_spec) (i:=0) rfl)) ?_
 refine RVz ⟨[(1,.v (.slice (some ⟨b6,0,none⟩) 1 c6)),(7,.v (.slice (some ⟨b7,0,none⟩) 2 2)),(8,V64 0),(9,VU (x:Int)),(31,.v (.slice (some ⟨b5,0,none⟩) 1 c5)),(32,V64 1),(33,V64 0)],[]⟩ ?_
 refine TTa 0 ⟨[(1,.v (.slice (some ⟨b6,0,none⟩) 1 c6)),(7,.v (.slice (some ⟨b7,0,none⟩) 2 2)),(8,V64 0),(9,VU (x:Int)),(10,VU 0),(31,.v (.slice (some ⟨b5,0,none⟩) 1 c5)),(32,V64 1),(33,V64 0)],[]⟩ ?_
 refine TT.seq (TTa 0 ⟨[(1,.v (.slice (some ⟨b6,0,none⟩) 1 c6)),(7,.v (.slice (some ⟨b7,0,none⟩) 2 2)),(8,V64 0),(9,VU (x:Int)),(10,VU 0),(31,.v (.slice (some ⟨b5,0,none⟩) 1 c5)),(32,V64 1),(33,V64 0),(38,.v (.slice (some ⟨b6,0,none⟩) 1 c6)),(39,V64 1),(40,V64 0)],[]⟩ ?_)
 refine TT.block ?_
 refine TT.unroll 2 ?_
 refine TTa 0 ⟨[(1,.v (.slice (some ⟨b6,0,none⟩) 1 c6)),(7,.v (.slice (some ⟨b7,0,none⟩) 2 2)),(8,V64 0),(9,VU (x:Int)),(10,VU 0),(31,.v (.slice (some ⟨b5,0,none⟩) 1 c5)),(32,V64 1),(33,V64 0),(38,.v (.slice (some ⟨b6,0,none⟩) 1 c6)),(39,V64 1),(40,V64 0),(41,VB true)],[]⟩ ?_
 refine TT.seq ?_
 refine TTy ?_
 refine TT.skip ?_
 refine TT.next ?_
 refine TT.seq ?_
 refine TT.block ?_
 refine TTe 2 [1,2] ?_
 refine RVd 1 (.idx 70 (.v (.slice (some ⟨b6,0,none⟩) 1 c6)) (V64 0)) (.v (.pointer (some ⟨b6,0+0*1,none⟩))) (fun ρ w F hF=>run_ixS (e:=73) (s:=1) (off:=0) 0 (by kernel_rfl) (by kernel_rfl) (by decide)) ?_
 refine RVd 2 (.load 73 (.v (.pointer (some ⟨b6,0+0*1,none⟩)))) (VU (y:Int)) (fun ρ w F hF=>run_ld (by kernel_rfl) (row_at (wl_pos hy▸hN6.row (sepR_fst (sepR_snd hF).choose_spec).choose_spec) (i:=0) rfl)) ?_
 refine RVz ⟨[(1,.v (.slice (some ⟨b6,0,none⟩) 1 c6)),(7,.v (.slice (some ⟨b7,0,none⟩) 2 2)),(8,V64 0),(9,VU (x:Int)),(10,VU 0),(11,V64 0),(12,VU (y:Int)),(31,.v (.slice (some ⟨b5,0,none⟩) 1 c5)),(32,V64 1),(33,V64 0),(38,.v (.slice (some ⟨b6,0,none⟩) 1 c6)),(39,V64 1),(40,V64 0)],[]⟩ ?_
 refine TTe 1 [2] ?_
 refine RVc 2 126 (fun ρ=>[.int .u64 (x:Int),.int .u64 (y:Int)]) [] (fun ρ w2 F2 hF2 hpk2=>?_)
 refine (mul64N hF2 hzd hlt (by omega) (by omega)).mono ?_
 rintro e2 w'2 ⟨rfl,hl2⟩
 refine ⟨.v (.tuple #[.int .u64 0,.int .u64 (z:Int)]),_,rfl,hl2,?_⟩
 refine RVz ⟨[(1,.v (.slice (some ⟨b6,0,none⟩) 1 c6)),(7,.v (.slice (some ⟨b7,0,none⟩) 2 2)),(8,V64 0),(9,VU (x:Int)),(10,VU 0),(11,V64 0),(13,VU 0),(14,VU (z:Int)),(31,.v (.slice (some ⟨b5,0,none⟩) 1 c5)),(32,V64 1),(33,V64 0),(38,.v (.slice (some ⟨b6,0,none⟩) 1 c6)),(39,V64 1),(40,V64 0)],[]⟩ ?_
 refine TTa 0 ⟨[(1,.v (.slice (some ⟨b6,0,none⟩) 1 c6)),(7,.v (.slice (some ⟨b7,0,none⟩) 2 2)),(8,V64 0),(9,VU (x:Int)),(10,VU 0),(11,V64 0),(13,VU 0),(14,VU (z:Int)),(31,.v (.slice (some ⟨b5,0,none⟩) 1 c5)),(32,V64 1),(33,V64 0),(38,.v (.slice (some ⟨b6,0,none⟩) 1 c6)),(39,V64 1),(40,V64 0)],[]⟩ ?_
 refine TTe 3 [5,6,7] ?_
 refine RVd 5 (.idx 70 (.v (.slice (some ⟨b7,0,none⟩) 2 2)) (V64 0)) (.v (.pointer (some ⟨b7,0+0*1,none⟩))) (fun ρ w F hF=>run_ixS (e:=73) (s:=1) (off:=0) 0 (by kernel_rfl) (by kernel_rfl) (by decide)) ?_
 refine RVd 6 (.load 73 (.v (.pointer (some ⟨b7,0+0*1,none⟩)))) (VU 0) (fun ρ w F hF=>run_ld (by kernel_rfl) (row_at (slW_row (sepR_fst hF).choose_spec) (i:=0) rfl)) ?_
 refine RVext 7 127 [VU (z:Int),VU 0,VU 0] (.v (.tuple #[.int .u64 (z:Int),.int .u64 0])) (by kernel_rfl) (by kernel_rfl) (by kernel_rfl) (fun ρ w=>add64N z 0 z (by omega) (by omega) w) ?_
 refine RVz ⟨[(1,.v (.slice (some ⟨b6,0,none⟩) 1 c6)),(7,.v (.slice (some ⟨b7,0,none⟩) 2 2)),(8,V64 0),(9,VU (x:Int)),(10,VU 0),(11,V64 0),(13,VU 0),(14,VU (z:Int)),(15,VU 0),(31,.v (.slice (some ⟨b5,0,none⟩) 1 c5)),(32,V64 1),(33,V64 0),(38,.v (.slice (some ⟨b6,0,none⟩) 1 c6)),(39,V64 1),(40,V64 0)],[]⟩ ?_
 refine TTa 0 ⟨[(1,.v (.slice (some ⟨b6,0,none⟩) 1 c6)),(7,.v (.slice (some ⟨b7,0,none⟩) 2 2)),(8,V64 0),(9,VU (x:Int)),(10,VU 0),(11,V64 0),(13,VU 0),(14,VU (z:Int)),(31,.v (.slice (some ⟨b5,0,none⟩) 1 c5)),(32,V64 1),(33,V64 0),(38,.v (.slice (some ⟨b6,0,none⟩) 1 c6)),(39,V64 1),(40,V64 0)],[]⟩ ?_
 refine TTe 1 [2] ?_
 refine RVext 2 127 [VU (z:Int),VU 0,VU 0] (.v (.tuple #[.int .u64 (z:Int),.int .u64 0])) (by kernel_rfl) (by kernel_rfl) (by kernel_rfl) (fun ρ w=>add64N z 0 z (by omega) (by omega) w) ?_
 refine RVz ⟨[(1,.v (.slice (some ⟨b6,0,none⟩) 1 c6)),(7,.v (.slice (some ⟨b7,0,none⟩) 2 2)),(8,V64 0),(9,VU (x:Int)),(11,V64 0),(13,VU 0),(14,VU (z:Int)),(15,VU 0),(31,.v (.slice (some ⟨b5,0,none⟩) 1 c5)),(32,V64 1),(33,V64 0),(38,.v (.slice (some ⟨b6,0,none⟩) 1 c6)),(39,V64 1),(40,V64 0)],[]⟩ ?_
 refine TT.r (m:=2) false [8,9] 0 mixed (by kernel_rfl) ?_
 refine RVd 8 (.idx 70 (.v (.slice (some ⟨b7,0,none⟩) 2 2)) (V64 0)) (.v (.pointer (some ⟨b7,0+0*1,none⟩))) (fun ρ w F hF=>run_ixS (e:=73) (s:=1) (off:=0) 0 (by kernel_rfl) (by kernel_rfl) (by decide)) ?_
 refine RVw 9 (.store 73 (.v (.pointer (some ⟨b7,0+0*1,none⟩))) (VU (z:Int))) (fun ρ w F hF=>⟨_,.v undef,sepR (slW (some ⟨b7,0,none⟩) 2 2 [z,0]) (sepR (slW (some ⟨b6,0,none⟩) 1 c6 (wl y)) (sepR (slW (some ⟨b5,0,none⟩) 1 c5 (wl x)) R)),(slW_st 0 z hF (by decide)).1,(slW_st 0 z hF (by decide)).2,?_⟩)
 refine RV.fin (s':=⟨[(1,.v (.slice (some ⟨b6,0,none⟩) 1 c6)),(7,.v (.slice (some ⟨b7,0,none⟩) 2 2)),(8,V64 0),(9,VU (x:Int)),(10,VU 0),(31,.v (.slice (some ⟨b5,0,none⟩) 1 c5)),(32,V64 1),(33,V64 0),(38,.v (.slice (some ⟨b6,0,none⟩) 1 c6)),(39,V64 1),(40,V64 0)],[]⟩) (by kernel_rfl) (by kernel_rfl) ?_
 refine TT.next ?_
 refine TT.p0 (s':=⟨[(1,.v (.slice (some ⟨b6,0,none⟩) 1 c6)),(7,.v (.slice (some ⟨b7,0,none⟩) 2 2)),(8,V64 0),(9,VU (x:Int)),(10,VU 0),(31,.v (.slice (some ⟨b5,0,none⟩) 1 c5)),(32,V64 1),(33,V64 0),(38,.v (.slice (some ⟨b6,0,none⟩) 1 c6)),(39,V64 1),(40,V64 1)],[]⟩) 0 (by kernel_rfl) ?_
 refine TT.again ?_
 refine TTa 0 ⟨[(1,.v (.slice (some ⟨b6,0,none⟩) 1 c6)),(7,.v (.slice (some ⟨b7,0,none⟩) 2 2)),(8,V64 0),(9,VU (x:Int)),(10,VU 0),(31,.v (.slice (some ⟨b5,0,none⟩) 1 c5)),(32,V64 1),(33,V64 0),(38,.v (.slice (some ⟨b6,0,none⟩) 1 c6)),(39,V64 1),(40,V64 1),(41,VB false)],[]⟩ ?_
 refine TT.seq ?_
 refine TTn ?_
 refine TTx ?_
 refine TT.next ?_
 refine TT.r (m:=2) false [6,7] 0 mixed (by kernel_rfl) ?_
 refine RVd 6 (.idx 70 (.v (.slice (some ⟨b7,0,none⟩) 2 2)) (V64 1)) (.v (.pointer (some ⟨b7,0+1*1,none⟩))) (fun ρ w F hF=>run_ixS (e:=73) (s:=1) (off:=0) 1 (by kernel_rfl) (by kernel_rfl) (by decide)) ?_
 refine RVw 7 (.store 73 (.v (.pointer (some ⟨b7,0+1*1,none⟩))) (VU 0)) (fun ρ w F hF=>⟨_,.v undef,sepR (slW (some ⟨b7,0,none⟩) 2 2 [z,0]) (sepR (slW (some ⟨b6,0,none⟩) 1 c6 (wl y)) (sepR (slW (some ⟨b5,0,none⟩) 1 c5 (wl x)) R)),(slW_st 1 0 hF (by decide)).1,(slW_st 1 0 hF (by decide)).2,?_⟩)
 refine RV.fin (s':=⟨[(1,.v (.slice (some ⟨b6,0,none⟩) 1 c6)),(7,.v (.slice (some ⟨b7,0,none⟩) 2 2)),(31,.v (.slice (some ⟨b5,0,none⟩) 1 c5)),(32,V64 1),(33,V64 0)],[]⟩) (by kernel_rfl) (by kernel_rfl) ?_
 refine TT.next ?_
 refine TT.p0 (s':=⟨[(1,.v (.slice (some ⟨b6,0,none⟩) 1 c6)),(7,.v (.slice (some ⟨b7,0,none⟩) 2 2)),(31,.v (.slice (some ⟨b5,0,none⟩) 1 c5)),(32,V64 1),(33,V64 1)],[]⟩) 0 (by kernel_rfl) ?_
 refine TT.again ?_
 refine TTa 0 ⟨[(1,.v (.slice (some ⟨b6,0,none⟩) 1 c6)),(7,.v (.slice (some ⟨b7,0,none⟩) 2 2)),(31,.v (.slice (some ⟨b5,0,none⟩) 1 c5)),(32,V64 1),(33,V64 1),(34,VB false)],[]⟩ ?_
 refine TT.seq ?_
 refine TTn ?_
 refine TTx ?_
 refine TT.next ?_
 refine TTe 1 [1] ?_
 refine RVc 1 128 (fun ρ=>[.slice (some ⟨b7,0,none⟩) 2 2]) [] (fun ρ w3 F3 hF3 hpk3=>?_)
 refine (toldN (z:=z) hF3 (fun h=>norm_2 (x:=z) h hz hlt (by decide) (fun h=>slW_row (sepR_fst h).choose_spec))).mono ?_
 rintro e3 w'3 ⟨A8,n8,c8,rfl,hN8,hl3⟩
 refine ⟨.v (.tuple #[.slice A8 n8 c8,.bool true]),_,rfl,hl3,?_⟩
 refine RVz ⟨[(4,.v (.slice A8 n8 c8)),(5,VB true)],[]⟩ ?_
 refine TTt Tryz.results107 (.v (.slice A8 n8 c8)) (VB true) (fun _ _ h=>h) (fun ρ a w4 hs4=>?_)
 exact ⟨A8,n8,c8,rfl,hN8,hs4.lands.drop2.drop2.drop2⟩
theorem addN {R:Res} {F:List Nat} {w:World} {A:Option Addr} {n c:Nat} {A':Option Addr} {n' c':Nat} {x y:Nat} (h:R.at_ w F) (hNa:NumIn R A n c x) (hNb:NumIn R A' n' c' y) (hlt:x+y<18446744073709551616):Calls Tryz.prog 124 #[.slice A n c,.slice A' n' c'] w (fun e w'=>∃(A:Option Addr) (n c:Nat),e = .returned (.tuple #[.slice A n c,.bool true])∧NumIn (slW A n c (wl (x+y))) A n c (x+y)∧Lands (sepR (slW A n c (wl (x+y))) R) F w w'):=by
 by_cases hx:x=0
 ·subst hx
  by_cases hy:y=0
  ·subst hy
   exact add_00 (x:=0) (y:=0) (z:=0) h hNa hNb (by decide)
  ·rw [Nat.zero_add]
   exact add_01 (x:=0) (z:=0) h hNa hNb hy (by omega)
 ·by_cases hy:y=0
  ·subst hy
   exact add_10 (y:=0) (z:=0) h hNa hNb hx (by omega)
  ·exact add_11 h hNa hNb hx hy hlt rfl
theorem mulN {R:Res} {F:List Nat} {w:World} {A:Option Addr} {n c:Nat} {A':Option Addr} {n' c':Nat} {x y:Nat} (h:R.at_ w F) (hNa:NumIn R A n c x) (hNb:NumIn R A' n' c' y) (hx:x≠0) (hlt:x*y<18446744073709551616):Calls Tryz.prog 107 #[.slice A n c,.slice A' n' c'] w (fun e w'=>∃(A:Option Addr) (n c:Nat),e = .returned (.tuple #[.slice A n c,.bool true])∧NumIn (slW A n c (wl (x*y))) A n c (x*y)∧Lands (sepR (slW A n c (wl (x*y))) R) F w w'):=by
 by_cases hy:y=0
 ·subst hy
  exact mul_10 (y:=0) (z:=0) h hNa hNb hx
 ·exact mul_11 h hNa hNb hx hy rfl hlt
set_option maxRecDepth 100000 in
set_option maxHeartbeats 2000000 in
theorem addM {R:Res} {F:List Nat} {w:World} {A:Option Addr} {n c:Nat} {A':Option Addr} {n' c':Nat} {x y:Nat} (h:R.at_ w F) (hNa:NumIn R A n c x) (hNb:NumIn R A' n' c' y) (hlt:x+y<18446744073709551616):Calls Tryz.prog 106 #[.slice A n c,.slice A' n' c'] w (NumOut R (x+y) F w):=by
 refine TTg [.v (.slice A n c),.v (.slice A' n' c')] Tryz.func106 Tryz.ntmps106 h ?_
 refine TTa 0 ⟨[(0,.v (.slice A n c)),(1,.v (.slice A' n' c'))],[]⟩ ?_
 refine TTe 1 [2] ?_
 refine RVc 2 124 (fun ρ=>[.slice A n c,.slice A' n' c']) [] (fun ρ w1 F1 hF1 hpk1=>?_)
 refine (addN hF1 hNa hNb hlt).mono ?_
 rintro e1 w'1 ⟨A8,n8,c8,rfl,hN8,hl1⟩
 refine ⟨.v (.tuple #[.slice A8 n8 c8,.bool true]),_,rfl,hl1,?_⟩
 refine RVz ⟨[(5,.v (.slice A8 n8 c8))],[]⟩ ?_
 refine TTa 0 ⟨[(4,.v (.slice A8 n8 c8))],[]⟩ ?_
 refine TTs Tryz.results106 (.v (.slice A8 n8 c8)) (fun _ _ h=>h) (fun ρ a w2 hs2=>?_)
 exact ⟨A8,n8,c8,rfl,hN8,hs2.lands⟩
set_option maxRecDepth 100000 in
set_option maxHeartbeats 2000000 in
theorem mulM {R:Res} {F:List Nat} {w:World} {A:Option Addr} {n c:Nat} {A':Option Addr} {n' c':Nat} {x y:Nat} (h:R.at_ w F) (hNa:NumIn R A n c x) (hNb:NumIn R A' n' c' y) (hx:x≠0) (hlt:x*y<18446744073709551616):Calls Tryz.prog 86 #[.slice A n c,.slice A' n' c'] w (NumOut R (x*y) F w):=by
 refine TTg [.v (.slice A n c),.v (.slice A' n' c')] Tryz.func86 Tryz.ntmps86 h ?_
 refine TTa 0 ⟨[(0,.v (.slice A n c)),(1,.v (.slice A' n' c'))],[]⟩ ?_
 refine TTe 1 [2] ?_
 refine RVc 2 107 (fun ρ=>[.slice A n c,.slice A' n' c']) [] (fun ρ w1 F1 hF1 hpk1=>?_)
 refine (mulN hF1 hNa hNb hx hlt).mono ?_
 rintro e1 w'1 ⟨A8,n8,c8,rfl,hN8,hl1⟩
 refine ⟨.v (.tuple #[.slice A8 n8 c8,.bool true]),_,rfl,hl1,?_⟩
 refine RVz ⟨[(5,.v (.slice A8 n8 c8))],[]⟩ ?_
 refine TTa 0 ⟨[(4,.v (.slice A8 n8 c8))],[]⟩ ?_
 refine TTs Tryz.results86 (.v (.slice A8 n8 c8)) (fun _ _ h=>h) (fun ρ a w2 hs2=>?_)
 exact ⟨A8,n8,c8,rfl,hN8,hs2.lands⟩
set_option maxRecDepth 100000 in
set_option maxHeartbeats 2000000 in
theorem ofN {R:Res} {F:List Nat} {w:World} {x:Nat} (h:R.at_ w F) (hx:x≠0) (hlt:x<18446744073709551616):Calls Tryz.prog 82 #[.int .u64 (x:Int)] w (NumOut R x F w):=by
 refine TTg [VU (x:Int)] Tryz.func82 Tryz.ntmps82 h ?_
 refine TTa 0 ⟨[(0,VU (x:Int))],[]⟩ ?_
 refine TTe 2 [1,2] ?_
 refine RV.bs (α:=Nat) (s:=1) (enc:=fun x:Nat=>[.int .u64 (x:Int)]) (E:=73) 1 70 1 [(0,.int .u64 (x:Int))] #[.int .u64 (x:Int)] [x] (by kernel_rfl) (by kernel_rfl) (by kernel_rfl) (by kernel_rfl) rfl rfl (by decide) (fun _=>rfl) (fun A7=>?_)
 refine RVc 2 63 (fun ρ=>[.slice A7 1 1]) [] (fun ρ w1 F1 hF1 hpk1=>?_)
 obtain ⟨b7,rfl⟩:∃b,A7=some ⟨b,0,none⟩:=by obtain ⟨b,hb,_⟩:=slR_head (sepR_fst hF1).choose_spec (by decide);exact ⟨b,hb⟩
 refine (norm_1 hF1 hx hlt (by decide) (fun h=>slW_row (sepR_fst h).choose_spec)).mono ?_
 rintro e1 w'1 ⟨A8,n8,c8,rfl,hN8,hl1⟩
 refine ⟨.v (.slice A8 n8 c8),_,rfl,hl1,?_⟩
 refine RVz ⟨[(2,.v (.slice A8 n8 c8))],[]⟩ ?_
 refine TTs Tryz.results82 (.v (.slice A8 n8 c8)) (fun _ _ h=>h) (fun ρ a w2 hs2=>?_)
 exact ⟨A8,n8,c8,rfl,hN8,hs2.lands.drop2⟩
structure Fenced (c:Cx) (w1:World) (F1:List Nat) (S:Res) (F2:List Nat):Prop where
 chg:Chg c.F0 c.w0 w1
 sub:∀x∈F1,x∈c.F0∨c.w0.heap.size≤x
 at_:S.at_ w1 F2
 sub2:∀x∈F2,x∈c.F0∨c.w0.heap.size≤x
 dis:∀x∈F2,¬x∈F1
theorem Fenced.read {c:Cx} {w1 w:World} {F1 F2:List Nat} {S:Res} (h:Fenced c w1 F1 S F2) (hc:Chg F1 w1 w):S.at_ w F2:=S.chg h.at_ hc h.dis
section
variable {P:Program} {c:Cx} {x:Code} {s:SS} {A S:Res} {Q:Exit→Act→World→Prop}
theorem TT.out (S:Res) (h:∀w1 F1 F2,Fenced c w1 F1 S F2→TT P ⟨w1,F1,c.nt,c.df⟩ x s A Q):TT P c x s (sepR A S) Q:=fun ρ a w hs=>by
 classical
 obtain ⟨F,⟨FA,F2,e0,hA,hS,hd⟩,f2,f3,f4⟩:=hs.sep
 obtain ⟨G,hG⟩:∃G:List Nat,G=(s.hp.map fun p=>ρ p.1).filter fun y=>decide (∃ k b,lk s.hp k=some b∧b.ro=false∧ρ k=y):=⟨_,rfl⟩
 have g1:∀y∈G,∃k b,lk s.hp k=some b∧b.ro=false∧ρ k=y:=fun y hy=>by
  rw [hG] at hy
  exact of_decide_eq_true (List.mem_filter.1 hy).2
 have g2:∀k b,lk s.hp k=some b→b.ro=false→ρ k∈G:=fun k b h1 h2=>by
  rw [hG]
  exact List.mem_filter.2 ⟨List.mem_map.2 ⟨(k,b),lk_mem h1,rfl⟩,decide_eq_true ⟨k,b,h1,h2,rfl⟩⟩
 refine h w (FA++G) F2 ⟨f4,fun y hy=>?_,hS,fun y hy=>f3 y ((e0 y).2 (.inr hy)),fun y hy hm=>?_⟩ ρ a w ⟨hs.size,hs.defers,hs.fr,hs.hp,hs.inj,FA,hA,fun k b hk=>⟨fun hm=>(f2 k b hk).1 ((e0 _).2 (.inl hm)),fun hro=> .inl (List.mem_append.2 (.inr (g2 k b hk hro)))⟩,fun y hy=> .inl (List.mem_append.2 (.inl hy)),Chg.refl _ _⟩
 ·rcases List.mem_append.1 hy with hy|hy
  ·exact f3 y ((e0 y).2 (.inl hy))
  ·obtain ⟨k,b,h1,h2,rfl⟩:=g1 y hy
   exact (f2 k b h1).2 h2
 ·rcases List.mem_append.1 hm with hm|hm
  ·exact hd y hm hy
  ·obtain ⟨k,b,h1,h2,rfl⟩:=g1 y hm
   exact (f2 k b h1).1 ((e0 _).2 (.inr hy))
theorem TT.back {w1:World} {F1 F2:List Nat} (hf:Fenced c w1 F1 S F2) (hro:∀k b,lk s.hp k=some b→b.ro=false) (h:TT P c x s (sepR A S) Q):TT P ⟨w1,F1,c.nt,c.df⟩ x s A Q:=fun ρ a w hs=>by
 obtain ⟨F,hA,f2,f3,f4⟩:=hs.sep
 have hlt:=S.lt hf.at_
 have hsz:w1.heap.size≤w.heap.size:=f4.size
 have hs0:=hf.chg.size
 refine h ρ a w ⟨hs.size,hs.defers,hs.fr,hs.hp,hs.inj,F++F2,⟨F,F2,fun x=>List.mem_append,hA,hf.read f4,fun y hy hm=>?_⟩,fun k b hk=>⟨fun hm=>?_,fun hr=>?_⟩,fun y hy=>?_,hf.chg.trans f4 hf.sub⟩
 ·rcases f3 y hy with h1|h1
  ·exact hf.dis y hm h1
  ·have:=hlt y hm
   simp only at h1
   omega
 ·rcases List.mem_append.1 hm with hm|hm
  ·exact (f2 k b hk).1 hm
  ·rcases (f2 k b hk).2 (hro k b hk) with h1|h1
   ·exact hf.dis _ hm h1
   ·have:=hlt _ hm
    simp only at h1
    omega
 ·rcases (f2 k b hk).2 hr with h1|h1
  ·exact hf.sub _ h1
  ·simp only at h1
   exact .inr (by omega)
 ·rcases List.mem_append.1 hy with hy|hy
  ·rcases f3 y hy with h1|h1
   ·exact hf.sub _ h1
   ·simp only at h1
    exact .inr (by omega)
  ·exact hf.sub2 y hy
theorem ro_all {l:List (Nat×SBlk)} (h:(l.all fun p=> !p.2.ro)=true):∀k b,lk l k=some b→b.ro=false:=fun k b hk=>by
 have:=List.all_eq_true.1 h _ (lk_mem hk)
 simpa using this
end
end
section
open Go.RowKit
def frD (f tag l top:Int):Int:=if f=1∨f=3 then top else if f=5 then tag else l
def edD (f n:Int):Int→Dg→Nat
 | _,.nil=>0
 | l,.one t=>2^(frD f t l n-l).toNat
 | l,.node tag top bot lo hi=>2^(frD f tag l top-l).toNat*(2^(bot-top).toNat*(edD f n (bot+1) lo+edD f n (bot+1) hi))
def ndD (f n top bot:Int) (lo hi:Dg):Nat:=2^(bot-top).toNat*(edD f n (bot+1) lo+edD f n (bot+1) hi)
theorem two_pow_le {a b:Int} (h:a≤b):2^a.toNat≤2^b.toNat:=Nat.pow_le_pow_right (by omega) (by omega)
theorem edD_le {f n:Int}:∀{T:Dg} {l:Int},Ft f l T→Gd f n T→l≤n→edD f n l T≤2^(n-l).toNat
 | .nil,l,_,_,_=>Nat.zero_le _
 | .one t,l,hf,hg,hl=>by
  unfold edD frD
  refine two_pow_le ?_
  have h5:f=5→t≤n:=fun h=>by
   unfold Gd at hg
   rw [if_pos h] at hg
   exact hg.2
  split
  ·omega
  ·split
   ·have:=h5 ‹_›;omega
   ·omega
 | .node tag top bot lo hi,l,hf,hg,hl=>by
  obtain ⟨⟨g1,g2,g3,g4⟩,g5,⟨g6,g7⟩,⟨g8,g9⟩,g10⟩:=hg
  have h1:=edD_le g6 g7 (by omega)
  have h2:=edD_le g8 g9 (by omega)
  have ht:f=5→tag≤top:=fun h=>by rw [if_pos h] at g5;exact g5.2
  have hft:=hf.1
  unfold edD
  have e1:(frD f tag l top-l).toNat+((bot-top).toNat+((n-(bot+1)).toNat+1))≤(n-l).toNat:=by
   have:frD f tag l top≤top:=by
    unfold frD
    split
    ·omega
    ·split
     ·have:=ht ‹_›;omega
     ·omega
   omega
  refine Nat.le_trans (Nat.mul_le_mul (Nat.le_refl _) (Nat.mul_le_mul (Nat.le_refl _) (Nat.add_le_add h1 h2))) ?_
  have e2:2^(n-(bot+1)).toNat+2^(n-(bot+1)).toNat=2^((n-(bot+1)).toNat+1):=by rw [Nat.pow_succ];omega
  rw [e2,←Nat.pow_add,←Nat.pow_add]
  exact Nat.pow_le_pow_right (by omega) e1
theorem ndD_le {f n tag top bot:Int} {lo hi:Dg} (hg:Gd f n (.node tag top bot lo hi)):edD f n (bot+1) lo≤2^(n-(bot+1)).toNat∧edD f n (bot+1) hi≤2^(n-(bot+1)).toNat∧ndD f n top bot lo hi≤2^(n-top).toNat:=by
 obtain ⟨⟨g1,g2,g3,g4⟩,g5,⟨g6,g7⟩,⟨g8,g9⟩,g10⟩:=hg
 have h1:=edD_le g6 g7 (by omega)
 have h2:=edD_le g8 g9 (by omega)
 refine ⟨h1,h2,?_⟩
 unfold ndD
 refine Nat.le_trans (Nat.mul_le_mul (Nat.le_refl _) (Nat.add_le_add h1 h2)) ?_
 have e2:2^(n-(bot+1)).toNat+2^(n-(bot+1)).toNat=2^((n-(bot+1)).toNat+1):=by rw [Nat.pow_succ];omega
 rw [e2,←Nat.pow_add]
 exact Nat.pow_le_pow_right (by omega) (by omega)
end
end Go.Proofs.YtnlmlehcpngcgaaGreat
