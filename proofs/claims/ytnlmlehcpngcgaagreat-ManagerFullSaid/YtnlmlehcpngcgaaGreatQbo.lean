/- Contracts: arena.at, arena.Drop. -/
import Derived.Test.YtnlmlehcpngcgaaGreatQbj
import Derived.Test.YtnlmlehcpngcgaaGreatQaf
namespace Go.Proofs.YtnlmlehcpngcgaaGreat
set_option linter.unusedSimpArgs false
set_option linter.unusedVariables false
section
open Go.RowKit Go.Sort
abbrev tAr:TypeId:=125
abbrev tCe:TypeId:=185
def arC (g b N c:Nat) (v:Value) (cs:List (Option Rec)) (k room:Nat):Res:=
 ⟨fun W F=>F=[g,b]∧g≠b∧Blk W g tAr #[.slice (some ⟨b,0,none⟩) N c,v,.int .i64 (k:Nat),.int .i64 (room:Nat)]∧OwnS 9 cellEnc tCe W 0 (.slice (some ⟨b,0,none⟩) N c) cs∧cs.length=N,
  (fun {W W' F G} h hc hd=>by
   obtain ⟨rfl,hne,hB,hO,hl⟩:=h
   exact ⟨rfl,hne,hB.chg hc (hd g (by simp)),hO.chg hc (fun k hk=>hd k (by simp [mem_blk,Value.ownBlock] at hk;simp [hk])),hl⟩),
  (fun {W F} h k hk=>by
   obtain ⟨rfl,hne,hB,hO,hl⟩:=h
   simp at hk
   rcases hk with rfl|rfl
   ·exact hB.lt
   ·exact OwnS.blk_lt hO _ (by simp [mem_blk,Value.ownBlock]))⟩
abbrev slU (A:Option Addr) (n c:Nat) (xs:List Int):Res:=slR 1 (fun x:Int=>[.int .u32 x]) 46 A n c xs
section
variable {g b N c k i room:Nat} {v:Value} {cs:List (Option Rec)} {F:List Nat} {w:World} {X:Res} {r:Rec}
theorem sepR_right (h:(sepR X (arC g b N c v cs k room)).at_ w F):∃F2,(arC g b N c v cs k room).at_ w F2:=by
 obtain ⟨F1,F2,_,_,h2,_⟩:=h
 exact ⟨F2,h2⟩
theorem ar_ldC (h:(sepR X (arC g b N c v cs k room)).at_ w F):(Instr.loadAt 122 (.pointer (some ⟨g,0,none⟩))).run Tryz.prog w = .ok (.slice (some ⟨b,0,none⟩) N c) w:=by
 obtain ⟨F2,h⟩:=sepR_right h
 exact run_ld (by kernel_rfl) (h.2.2.1.cell 0)
theorem ar_ldF (h:(sepR X (arC g b N c v cs k room)).at_ w F):(Instr.loadAt 123 (.pointer (some ⟨g,1,none⟩))).run Tryz.prog w = .ok v w:=by
 obtain ⟨F2,h⟩:=sepR_right h
 exact run_ld (by kernel_rfl) (h.2.2.1.cell 1)
theorem ar_ldN (h:(sepR X (arC g b N c v cs k room)).at_ w F):(Instr.loadAt 3 (.pointer (some ⟨g,2,none⟩))).run Tryz.prog w = .ok (.int .i64 (k:Nat)) w:=by
 obtain ⟨F2,h⟩:=sepR_right h
 exact run_ld (by kernel_rfl) (h.2.2.1.cell 2)
theorem ar_ix {kk:IntKind} (hi:i<N):(Instr.indexAt 122 (.slice (some ⟨b,0,none⟩) N c) (.int kk (i:Int))).run Tryz.prog w = .ok (.pointer (some ⟨b,i*9,none⟩)) w:=by
 have:=run_ixS (P:=Tryz.prog) (w:=w) (t:=122) (e:=tCe) (n:=N) (c:=c) (s:=9) (k:=kk) (b:=b) (off:=0) i (by kernel_rfl) (by kernel_rfl) hi
 rw [Nat.zero_add] at this
 exact this
theorem ar_row {y:Option Rec} (h:(sepR X (arC g b N c v cs k room)).at_ w F) (hy:cs[i]? =some y):w.rangeAt b (i*9) (cellEnc y)∧w.there b (i*9) 9:=by
 obtain ⟨F2,h⟩:=sepR_right h
 exact OwnS.at_ cellEnc_len h.2.2.2.1 i y hy
theorem ar_ldIn {y:Option Rec} (h:(sepR X (arC g b N c v cs k room)).at_ w F) (hy:cs[i]? =some y):(Instr.loadAt 4 (.pointer (some ⟨b,i*9+7,none⟩))).run Tryz.prog w = .ok (.bool y.isSome) w:=
 run_ld (by kernel_rfl) ((ar_row h hy).1 7 _ (by cases y<;>rfl))
theorem ar_ldHeld {y:Option Rec} (h:(sepR X (arC g b N c v cs k room)).at_ w F) (hy:cs[i]? =some y):(Instr.loadAt 3 (.pointer (some ⟨b,i*9+8,none⟩))).run Tryz.prog w = .ok (.int .i64 0) w:=
 run_ld (by kernel_rfl) ((ar_row h hy).1 8 _ (by cases y<;>rfl))
theorem ar_blk (o:Nat) (x:Value) (h1:x.cells = #[x]) (hx:x.oneCell'=true) (ho:o<4) (v':Value) (k':Nat) (hset:∀a:Value,(#[a,v,.int .i64 (k:Nat),.int .i64 (room:Nat)]:Array Value).setIfInBounds o x = #[a,v',.int .i64 (k':Nat),.int .i64 (room:Nat)]) {t:TypeId} (ht:(Tryz.prog.info? t).map (·.size)=some 1)
  (h:(sepR X (arC g b N c v cs k room)).at_ w F):(do Instr.storeAt t (.pointer (some ⟨g,o,none⟩)) x;pure undef:Sem Value).run Tryz.prog w = .ok undef (w.setCells g o [x])∧Lands (sepR X (arC g b N c v' cs k' room)) F w (w.setCells g o [x]):=by
 obtain ⟨F1,F2,e0,hX,⟨rfl,hne,hB,hO,hl⟩,hd⟩:=h
 have hch:Chg [g] w (w.setCells g o [x]):=Chg.setCells (Chg.refl _ _) (.inl (by simp)) _ _
 refine ⟨?_,F,⟨F1,[g,b],e0,X.chg hX hch (fun k hk hm=>?_),⟨rfl,hne,?_,hO.chg hch (fun k hk=>?_),hl⟩,hd⟩,fun y hy=> .inl hy,hch.mono fun y hy=>?_⟩
 ·have:=run_st (P:=Tryz.prog) (w:=w) (t:=t) (b:=g) (off:=o) (v:=x) (by rw [h1];exact ht) (fun j hj=>by
   rw [h1] at hj
   have:j=0:=by simp at hj;exact hj
   subst this
   rw [hB.cell]
   simp [ho]) (fun j hj=>hB.frozen _) (by rw [h1];simp [hx])
  rw [h1] at this
  exact this
 ·simp at hm
  subst hm
  exact hd k hk (by simp)
 ·have:=hB.set_ o x
  rw [hset] at this
  exact this
 ·simp [mem_blk,Value.ownBlock] at hk ⊢
  omega
 ·simp at hy
  subst hy
  exact .inl ((e0 y).2 (.inr (by simp)))
theorem ar_stF (A2:Option Addr) (n2 c2:Nat) (h:(sepR X (arC g b N c v cs k room)).at_ w F):(do Instr.storeAt 123 (.pointer (some ⟨g,1,none⟩)) (.slice A2 n2 c2);pure undef:Sem Value).run Tryz.prog w = .ok undef (w.setCells g 1 [.slice A2 n2 c2])∧Lands (sepR X (arC g b N c (.slice A2 n2 c2) cs k room)) F w (w.setCells g 1 [.slice A2 n2 c2]):=
 ar_blk 1 (.slice A2 n2 c2) rfl rfl (by decide) _ _ (fun a=>rfl) (by kernel_rfl) h
theorem ar_stN (k2:Nat) (h:(sepR X (arC g b N c v cs k room)).at_ w F):(do Instr.storeAt 3 (.pointer (some ⟨g,2,none⟩)) (.int .i64 (k2:Int));pure undef:Sem Value).run Tryz.prog w = .ok undef (w.setCells g 2 [.int .i64 (k2:Int)])∧Lands (sepR X (arC g b N c v cs k2 room)) F w (w.setCells g 2 [.int .i64 (k2:Int)]):=
 ar_blk 2 (.int .i64 (k2:Int)) rfl rfl (by decide) _ _ (fun a=>rfl) (by kernel_rfl) h
theorem ar_stC (hi:i<N) (y:Option Rec) (h:(sepR X (arC g b N c v cs k room)).at_ w F):(do Instr.storeAt tCe (.pointer (some ⟨b,i*9,none⟩)) (.agg (cellEnc y).toArray);pure undef:Sem Value).run Tryz.prog w = .ok undef (w.setCells b (i*9) (cellEnc y))∧Lands (sepR X (arC g b N c v (cs.set i y) k room)) F w (w.setCells b (i*9) (cellEnc y)):=by
 have hlC:cs.length=N:=by
  obtain ⟨F2,h⟩:=sepR_right h
  exact h.2.2.2.2
 obtain ⟨y0,hy0⟩:∃y0,cs[i]? =some y0:=⟨_,List.getElem?_eq_getElem (by rw [hlC];exact hi)⟩
 have hth:=(ar_row h hy0).2
 obtain ⟨F1,F2,e0,hX,⟨rfl,hne,hB,hO,hl⟩,hd⟩:=h
 have hlen:=cellEnc_len y
 have hch:Chg [b] w (w.setCells b (i*9) (cellEnc y)):=Chg.setCells (Chg.refl _ _) (.inl (by simp)) _ _
 refine ⟨?_,F,⟨F1,[g,b],e0,X.chg hX hch (fun k hk hm=>?_),⟨rfl,hne,hB.chg hch (by simp;exact hne),OwnS.set_ cellEnc_len hO i (by rw [hl];exact hi) y,by rw [List.length_set];exact hl⟩,hd⟩,fun y hy=> .inl hy,hch.mono fun y hy=>?_⟩
 ·have h1:(Value.agg (cellEnc y).toArray).cells.size=9:=by
   show (cellEnc y).toArray.size=9
   rw [List.size_toArray,hlen]
  exact run_st (P:=Tryz.prog) (w:=w) (t:=tCe) (b:=b) (off:=i*9) (v:= .agg (cellEnc y).toArray) (by rw [h1];kernel_rfl) (fun j hj=>(hth j (by omega)).1) (fun j hj=>(hth j (by omega)).2) (cellEnc_one y)
 ·simp at hm
  subst hm
  exact hd k hk (by simp)
 ·simp at hy
  subst hy
  exact .inl ((e0 y).2 (.inr (by simp)))
end
set_option maxRecDepth 100000 in
theorem arAt {g b N c k i room:Nat} {cs:List (Option Rec)} {F:List Nat} {w:World} {r:Rec} {v:Value} {X:Res} (h:(sepR X (arC g b N c v cs k room)).at_ w F) (hy:cs[i]? =some (some r)) (hi:i≤1048576):Calls Tryz.prog 100 #[.pointer (some ⟨g,0,none⟩),.int .u32 ((i+2:Nat):Int)] w (Says (.pointer (some ⟨b,i*9,none⟩)) (sepR X (arC g b N c v cs k room)) F w):=by
 have hiN:i<N:=by
  obtain ⟨F2,h⟩:=sepR_right h
  rw [← h.2.2.2.2]
  exact (List.getElem?_eq_some_iff.1 hy).1
 have hi2:IntKind.u32.wrap (((i+2:Nat):Int)-2)=(i:Int):=by rw [IntWalk.u32_in _ (by omega)];omega
 have hlt2:decide (((i+2:Nat):Int)<2)=false:=by simp;omega
 have hi64:IntKind.i64.wrap (i:Int)=(i:Int):=IntWalk.i64_in _ (by omega)
 have hge:decide ((i:Int)≥(N:Int))=false:=by simp;omega
 refine TTg [VP g,V32 ((i+2:Nat):Int)] Tryz.func100 Tryz.ntmps100 h ?_
 refine TTa 0 ⟨[(0,VP g),(1,V32 ((i+2:Nat):Int))],[]⟩ ?_
 refine TT.seq (TTe 9 [4,8,9,13,15,21,23,24,26] ?_)
 refine RVp 4 (.bool (decide (((i+2:Nat):Int)<2))) (.bool false) (by rw [hlt2]) ?_
 refine RVp 8 (.int .u32 (IntKind.u32.wrap (((i+2:Nat):Int)-2))) (.int .u32 (i:Int)) (by rw [hi2]) ?_
 refine RVp 9 (.int .i64 (IntKind.i64.wrap (i:Int))) (.int .i64 (i:Int)) (by rw [hi64]) ?_
 refine RVd 13 (.load 122 (VP g)) (.v (.slice (some ⟨b,0,none⟩) N c)) (fun ρ w F hF=>ar_ldC hF) ?_
 refine RVp 15 (.bool (decide ((i:Int)≥(N:Int)))) (.bool false) (by rw [hge]) ?_
 refine RVd 21 (.load 122 (VP g)) (.v (.slice (some ⟨b,0,none⟩) N c)) (fun ρ w F hF=>ar_ldC hF) ?_
 refine RVp 23 (.int .u32 (IntKind.u32.wrap (((i+2:Nat):Int)-2))) (.int .u32 (i:Int)) (by rw [hi2]) ?_
 refine RVd 24 (.idx 122 (.v (.slice (some ⟨b,0,none⟩) N c)) (.v (.int .u32 (i:Int)))) (.v (.pointer (some ⟨b,i*9,none⟩))) (fun ρ w F hF=>ar_ix hiN) ?_
 refine RVd 26 (.load 4 (.v (.pointer (some ⟨b,i*9+7,none⟩)))) (VB true) (fun ρ w F hF=>ar_ldIn hF hy) ?_
 refine RVz ⟨[(0,VP g),(1,V32 ((i+2:Nat):Int)),(33,VB false)],[]⟩ ?_
 refine TTu (TT.next ?_)
 refine TTe 3 [3,5,6] ?_
 refine RVd 3 (.load 122 (VP g)) (.v (.slice (some ⟨b,0,none⟩) N c)) (fun ρ w F hF=>ar_ldC hF) ?_
 refine RVp 5 (.int .u32 (IntKind.u32.wrap (((i+2:Nat):Int)-2))) (.int .u32 (i:Int)) (by rw [hi2]) ?_
 refine RVd 6 (.idx 122 (.v (.slice (some ⟨b,0,none⟩) N c)) (.v (.int .u32 (i:Int)))) (.v (.pointer (some ⟨b,i*9,none⟩))) (fun ρ w F hF=>ar_ix hiN) ?_
 refine RVz ⟨[(4,.v (.pointer (some ⟨b,i*9,none⟩)))],[]⟩ ?_
 refine TTs Tryz.results100 (.v (.pointer (some ⟨b,i*9,none⟩))) (fun _ _ h=>h) (fun ρ a w1 hs1=>?_)
 exact ⟨rfl,hs1.lands⟩
def arDr (g b N c room:Nat) (cs:List (Option Rec)) (free:List Int) (k:Nat):Res:=
 ⟨fun W F=>∃A n c',(sepR (slU A n c' free) (arC g b N c (.slice A n c') cs k room)).at_ W F,(fun ⟨A,n,c',h⟩ hc hd=>⟨A,n,c',Res.chg _ h hc hd⟩),(fun ⟨A,n,c',h⟩=>Res.lt _ h)⟩
set_option maxRecDepth 100000 in
set_option maxHeartbeats 4000000 in
theorem arDrop {g b N c k i room:Nat} {cs:List (Option Rec)} {F:List Nat} {w:World} {r:Rec} {A':Option Addr} {n' c':Nat} {free:List Int} (h:(sepR (slU A' n' c' free) (arC g b N c (.slice A' n' c') cs (k+1) room)).at_ w F) (hy:cs[i]? =some (some r)) (hi:i≤1048576) (hk:k≤1048576) (hn':n'≤1048576):Calls Tryz.prog 96 #[.pointer (some ⟨g,0,none⟩),.int .u32 ((i+2:Nat):Int)] w (Says (.bool true) (arDr g b N c room (cs.set i none) (free++[((i+2:Nat):Int)]) k) F w):=by
 have hiN:i<N:=by
  obtain ⟨F2,h⟩:=sepR_right h
  rw [← h.2.2.2.2]
  exact (List.getElem?_eq_some_iff.1 hy).1
 have hi2:IntKind.u32.wrap (((i+2:Nat):Int)-2)=(i:Int):=by rw [IntWalk.u32_in _ (by omega)];omega
 have hlt2:decide (((i+2:Nat):Int)<2)=false:=by simp;omega
 have hi64:IntKind.i64.wrap (i:Int)=(i:Int):=IntWalk.i64_in _ (by omega)
 have hge:decide ((i:Int)≥(N:Int))=false:=by simp;omega
 have hk1:IntKind.i64.wrap (((k+1:Nat):Int)-1)=(k:Int):=by rw [IntWalk.i64_in _ (by omega)];omega
 refine TTg [VP g,V32 ((i+2:Nat):Int)] Tryz.func96 Tryz.ntmps96 h ?_
 refine TTa 0 ⟨[(0,VP g),(1,V32 ((i+2:Nat):Int))],[]⟩ ?_
 refine TTe 1 [2] ?_
 refine RVc 2 100 (fun ρ=>[.pointer (some ⟨g,0,none⟩),.int .u32 ((i+2:Nat):Int)]) [] (fun ρ w1 F1 hF1 hpk1=>?_)
 refine (arAt hF1 hy hi).mono ?_
 rintro e1 w'1 ⟨rfl,hl1⟩
 refine ⟨.v (.pointer (some ⟨b,i*9,none⟩)),_,rfl,hl1,?_⟩
 refine RVz ⟨[(0,VP g),(1,V32 ((i+2:Nat):Int)),(5,.v (.pointer (some ⟨b,i*9,none⟩)))],[]⟩ ?_
 refine TT.seq (TTe 1 [6] ?_)
 refine RVd 6 (.load 3 (.v (.pointer (some ⟨b,i*9+8,none⟩)))) (V64 0) (fun ρ w F hF=>ar_ldHeld hF hy) ?_
 refine RVz ⟨[(0,VP g),(1,V32 ((i+2:Nat):Int)),(5,.v (.pointer (some ⟨b,i*9,none⟩))),(17,VB false)],[]⟩ ?_
 refine TTu (TT.next ?_)
 refine TTe 1 [3] ?_
 refine RVw 3 (.store 185 (.v (.pointer (some ⟨b,i*9,none⟩))) (.v (.agg (cellEnc none).toArray))) (fun ρ w F hF=>⟨_,.v undef,_,(ar_stC hiN none hF).1,(ar_stC hiN none hF).2,?_⟩)
 refine RVz ⟨[(0,VP g),(1,V32 ((i+2:Nat):Int))],[]⟩ ?_
 refine TTe 4 [4,6,7,10] ?_
 refine RVd 4 (.load 123 (.v (.pointer (some ⟨g,1,none⟩)))) (.v (.slice A' n' c')) (fun ρ w F hF=>ar_ldF hF) ?_
 refine RV.bs (α:=Int) (s:=1) (enc:=fun x:Int=>[.int .u32 x]) (E:=46) 6 123 1 [(0,.int .u32 ((i+2:Nat):Int))] #[.int .u32 ((i+2:Nat):Int)] [((i+2:Nat):Int)] (by kernel_rfl) (by kernel_rfl) (by kernel_rfl) (by kernel_rfl) rfl rfl (by decide) (fun _=>rfl) (fun A=>?_)
 refine RV.app (α:=Int) (s:=1) (enc:=fun x:Int=>[.int .u32 x]) (E:=46) 7 123 123 A' A n' c' 1 1 free [((i+2:Nat):Int)] (z:= .int .u32 0) (bytes:=4) (by kernel_rfl) (by kernel_rfl) (by kernel_rfl) (by kernel_rfl) (by kernel_rfl) rfl (by decide) (by decide) (fun _=>rfl) (fun y _ u hu=>by simp at hu;subst hu;rfl) (by omega) (by decide) (fun A2 c2=>?_)
 refine RVw 10 (.store 123 (.v (.pointer (some ⟨g,1,none⟩))) (.v (.slice A2 (n'+1) c2))) (fun ρ w F hF=>⟨_,.v undef,_,(ar_stF A2 (n'+1) c2 hF).1,(ar_stF A2 (n'+1) c2 hF).2,?_⟩)
 refine RVz ⟨[(0,VP g)],[]⟩ ?_
 refine TTe 3 [3,4,7] ?_
 refine RVd 3 (.load 3 (.v (.pointer (some ⟨g,2,none⟩)))) (V64 ((k+1:Nat):Int)) (fun ρ w F hF=>ar_ldN hF) ?_
 refine RVp 4 (.int .i64 (IntKind.i64.wrap (((k+1:Nat):Int)-1))) (.int .i64 (k:Int)) (by rw [hk1]) ?_
 refine RVw 7 (.store 3 (.v (.pointer (some ⟨g,2,none⟩))) (V64 (k:Int))) (fun ρ w F hF=>⟨_,.v undef,_,(ar_stN k hF).1,(ar_stN k hF).2,?_⟩)
 refine RVz ⟨[],[]⟩ ?_
 refine TTa 0 ⟨[(4,VB true)],[]⟩ ?_
 refine TTs Tryz.results96 (VB true) (fun _ _ h=>h) (fun ρ a w2 hs2=>?_)
 exact ⟨rfl,hs2.lands.imp fun _ h=>⟨A2,n'+1,c2,h⟩⟩
end
end Go.Proofs.YtnlmlehcpngcgaaGreat
