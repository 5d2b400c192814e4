/- Contracts: manager's free, has. Contracts: manager's same, room. Contracts: manager's room. Contract: manager's Live. -/
import Derived.Test.YtnlmlehcpngcgaaGreatQbj
import Derived.Test.YtnlmlehcpngcgaaGreatQbq
namespace Go.Proofs.YtnlmlehcpngcgaaGreat
set_option linter.unusedSimpArgs false
set_option linter.unusedVariables false
section
open Go.RowKit Go.Sort
def IsFree (live:Nat→Bool) (f:Nat):Prop:=(f=0∧∀k,1≤k→k≤256→live k=true)∨(1≤f∧f≤256∧live f=false∧∀k,1≤k→k<f→live k=true)
def FreeOut (live:Nat→Bool) (R:Res) (F:List Nat) (w:World) (e:Ending) (w':World):Prop:=∃f:Nat,IsFree live f∧Says (.int .i64 (f:Int)) R F w e w'
def hasM (live:Nat→Bool) (a:Int):Bool:=decide (1≤a∧a≤256)&&live a.toNat
set_option maxRecDepth 100000 in
set_option maxHeartbeats 4000000 in
theorem mgFree {m:Nat} {M:Mg} {R:Res} {F:List Nat} {w:World} (h:R.at_ w F) (hM:∀{W:World} {X:List Nat},R.at_ W X→Blk W m tMg (mgCells M)):Calls Tryz.prog 42 #[.pointer (some ⟨m,0,none⟩)] w (FreeOut M.live R F w):=by
 refine TTg [VP m] Tryz.func42 Tryz.ntmps42 h ?_
 refine TTa 0 ⟨[(0,VP m)],[]⟩ ?_
 refine TT.seq (TTa 0 ⟨[(0,VP m),(3,V64 1)],[]⟩ ?_)
 refine TT.block ?_
 refine TT.loop (ι:=Nat) (fun i=>1≤i∧i≤257∧∀k,1≤k→k<i→M.live k=true) (fun i=>⟨[(0,VP m),(3,V64 (i:Int))],[]⟩) (fun i=>R) (fun i=>257-i) 1 (⟨by omega,by omega,fun k h1 h2=>by omega⟩) rfl rfl (fun i hi1=>?_)
 obtain ⟨hi1,hi2,hi3⟩:=hi1
 have hup:IntKind.i64.wrap ((i:Int)+1)=((i+1:Nat):Int):=i64_up (by omega)
 refine TT.seq (TTa 0 ⟨[(0,VP m),(3,V64 (i:Int)),(5,VB (decide ((i:Int)≤256)))],[]⟩ ?_)
 refine TT.cond (b:=decide ((i:Int)≤256)) (by kernel_rfl) (fun hc2=>?_) (fun hc2=>?_)
 ·have hi6:i≤256:=by simp only [decide_eq_true_eq] at hc2;omega
  refine TT.skip ?_
  refine TT.next ?_
  refine TT.seq ?_
  refine TT.block ?_
  refine TTe 2 [4,5] ?_
  refine RVd 4 (.idx 45 (.v (.pointer (some ⟨m,5,none⟩))) (V64 (i:Int))) (.v (.pointer (some ⟨m,5+i,none⟩))) (fun ρ w F hF=>mg_ixL (by omega)) ?_
  refine RVd 5 (.load 4 (.v (.pointer (some ⟨m,5+i,none⟩)))) (VB (M.live i)) (fun ρ w F hF=>mg_ldL (by omega) (hM hF)) ?_
  refine RVz ⟨[(0,VP m),(3,V64 (i:Int)),(14,VB (!(M.live i)))],[]⟩ ?_
  refine TT.cond (b:= !(M.live i)) (by kernel_rfl) (fun hc3=>?_) (fun hc3=>?_)
  ·refine TTa 0 ⟨[(2,V64 (i:Int))],[]⟩ ?_
   refine TTs Tryz.results42 (V64 (i:Int)) (fun _ _ h=>h) (fun ρ a w4 hs4=>?_)
   exact ⟨i,.inr ⟨hi1,hi6,by simpa using hc3,hi3⟩,rfl,hs4.lands⟩
  ·refine TT.skip ?_
   refine TT.next ?_
   refine TT.p0 (s':=⟨[(0,VP m),(3,V64 (IntKind.i64.wrap ((i:Int)+1)))],[]⟩) 0 (by kernel_rfl) ?_
   rw [hup]
   exact fun ρ a w hs=>⟨ρ,i+1,⟨by omega,by omega,fun k h1 h2=>(Nat.lt_or_ge k i).elim (hi3 k h1) (fun h=>by have e:k=i:=(by omega);subst e;simpa using hc3)⟩,by omega,hs⟩
 ·have hi6:i=257:=by simp only [decide_eq_false_iff_not] at hc2;omega
  refine TTx ?_
  refine TT.next ?_
  refine TTa 0 ⟨[(2,V64 0)],[]⟩ ?_
  refine TTs Tryz.results42 (V64 0) (fun _ _ h=>h) (fun ρ a w5 hs5=>?_)
  exact ⟨0,.inl ⟨rfl,fun k h1 h2=>hi3 k h1 (by omega)⟩,rfl,hs5.lands⟩
set_option maxRecDepth 100000 in
set_option maxHeartbeats 4000000 in
theorem mgHas_in {m:Nat} {M:Mg} {R:Res} {F:List Nat} {w:World} {a:Nat} (h:R.at_ w F) (hM:∀{W:World} {X:List Nat},R.at_ W X→Blk W m tMg (mgCells M)) (ha:1≤a∧a≤256):Calls Tryz.prog 44 #[.pointer (some ⟨m,0,none⟩),.int .i64 (a:Int)] w (Says (.bool (M.live a)) R F w):=by
 have h1:decide ((a:Int)≥1)=true:=by simp;omega
 have h2:decide ((a:Int)≤256)=true:=by simp;omega
 refine TTg [VP m,V64 (a:Int)] Tryz.func44 Tryz.ntmps44 h ?_
 refine TTa 0 ⟨[(0,VP m),(1,V64 (a:Int))],[]⟩ ?_
 refine TTe 4 [1,4,11,12] ?_
 refine RVp 1 (.bool (decide ((a:Int)≥1))) (.bool true) (by rw [h1]) ?_
 refine RVp 4 (.bool (decide ((a:Int)≤256))) (.bool true) (by rw [h2]) ?_
 refine RVd 11 (.idx 45 (.v (.pointer (some ⟨m,5,none⟩))) (V64 (a:Int))) (.v (.pointer (some ⟨m,5+a,none⟩))) (fun ρ w F hF=>mg_ixL (by omega)) ?_
 refine RVd 12 (.load 4 (.v (.pointer (some ⟨m,5+a,none⟩)))) (VB (M.live a)) (fun ρ w F hF=>mg_ldL (by omega) (hM hF)) ?_
 refine RVz ⟨[(4,VB (M.live a))],[]⟩ ?_
 refine TTs Tryz.results44 (VB (M.live a)) (fun _ _ h=>h) (fun ρ a w1 hs1=>?_)
 exact ⟨rfl,hs1.lands⟩
set_option maxRecDepth 100000 in
set_option maxHeartbeats 4000000 in
theorem mgHas_low {m:Nat} {M:Mg} {R:Res} {F:List Nat} {w:World} {a:Int} (h:R.at_ w F) (hM:∀{W:World} {X:List Nat},R.at_ W X→Blk W m tMg (mgCells M)) (ha:a<1):Calls Tryz.prog 44 #[.pointer (some ⟨m,0,none⟩),.int .i64 a] w (Says (.bool false) R F w):=by
 have h1:decide (a≥1)=false:=by simp;omega
 refine TTg [VP m,V64 a] Tryz.func44 Tryz.ntmps44 h ?_
 refine TTa 0 ⟨[(0,VP m),(1,V64 a)],[]⟩ ?_
 refine TTe 3 [1,11,12] ?_
 refine RVp 1 (.bool (decide (a≥1))) (.bool false) (by rw [h1]) ?_
 refine RV.skip 11 (by kernel_rfl) (by kernel_rfl) ?_
 refine RV.skip 12 (by kernel_rfl) (by kernel_rfl) ?_
 refine RVz ⟨[(4,VB false)],[]⟩ ?_
 refine TTs Tryz.results44 (VB false) (fun _ _ h=>h) (fun ρ a w1 hs1=>?_)
 exact ⟨rfl,hs1.lands⟩
set_option maxRecDepth 100000 in
set_option maxHeartbeats 4000000 in
theorem mgHas_high {m:Nat} {M:Mg} {R:Res} {F:List Nat} {w:World} {a:Int} (h:R.at_ w F) (hM:∀{W:World} {X:List Nat},R.at_ W X→Blk W m tMg (mgCells M)) (ha:256<a):Calls Tryz.prog 44 #[.pointer (some ⟨m,0,none⟩),.int .i64 a] w (Says (.bool false) R F w):=by
 have h1:decide (a≥1)=true:=by simp;omega
 have h2:decide (a≤256)=false:=by simp;omega
 refine TTg [VP m,V64 a] Tryz.func44 Tryz.ntmps44 h ?_
 refine TTa 0 ⟨[(0,VP m),(1,V64 a)],[]⟩ ?_
 refine TTe 4 [1,4,11,12] ?_
 refine RVp 1 (.bool (decide (a≥1))) (.bool true) (by rw [h1]) ?_
 refine RVp 4 (.bool (decide (a≤256))) (.bool false) (by rw [h2]) ?_
 refine RV.skip 11 (by kernel_rfl) (by kernel_rfl) ?_
 refine RV.skip 12 (by kernel_rfl) (by kernel_rfl) ?_
 refine RVz ⟨[(4,VB false)],[]⟩ ?_
 refine TTs Tryz.results44 (VB false) (fun _ _ h=>h) (fun ρ a w1 hs1=>?_)
 exact ⟨rfl,hs1.lands⟩
theorem mgHas {m:Nat} {M:Mg} {R:Res} {F:List Nat} {w:World} (a:Int) (h:R.at_ w F) (hM:∀{W:World} {X:List Nat},R.at_ W X→Blk W m tMg (mgCells M)):Calls Tryz.prog 44 #[.pointer (some ⟨m,0,none⟩),.int .i64 a] w (Says (.bool (hasM M.live a)) R F w):=by
 unfold hasM
 by_cases h1:a<1
 ·rw [decide_eq_false (by omega:¬(1≤a∧a≤256)),Bool.false_and]
  exact mgHas_low h hM h1
 ·by_cases h2:256<a
  ·rw [decide_eq_false (by omega:¬(1≤a∧a≤256)),Bool.false_and]
   exact mgHas_high h hM h2
  ·obtain ⟨k,rfl⟩:=Int.eq_ofNat_of_zero_le (show 0≤a by omega)
   rw [decide_eq_true (by omega:1≤((k:Nat):Int)∧((k:Nat):Int)≤256),Bool.true_and,Int.toNat_natCast]
   exact mgHas_in h hM (by omega)
abbrev slI (A:Option Addr) (n c:Nat) (xs:List Int):Res:=slR 1 (fun x:Int=>[.int .i64 x]) 3 A n c xs
section
variable {A:Option Addr} {n c:Nat} {xs:List Int} {R:Res} {F:List Nat} {w:World}
theorem slI_len (h:(sepR (slI A n c xs) R).at_ w F):xs.length=n:=by
 obtain ⟨F1,F2,_,h1,_⟩:=h
 exact slR_len h1
theorem slI_max (h:(sepR (slI A n c xs) R).at_ w F):n≤9223372036854775807:=by
 obtain ⟨F1,F2,_,h1,_⟩:=h
 exact slR_max h1
theorem slI_ix {i:Nat} (h:(sepR (slI A n c xs) R).at_ w F) (hi:i<n):(Instr.indexAt 85 (.slice A n c) (.int .i64 (i:Int))).run Tryz.prog w = .ok (.pointer (some (adr A (i*1)))) w:=by
 obtain ⟨F1,F2,_,h1,_⟩:=h
 exact slR_ix i h1 (by kernel_rfl) (by kernel_rfl) hi
theorem slI_ld {i:Nat} {x:Int} (h:(sepR (slI A n c xs) R).at_ w F) (hx:xs[i]? =some x):(Instr.loadAt 3 (.pointer (some (adr A (i*1))))).run Tryz.prog w = .ok (.int .i64 x) w:=by
 obtain ⟨F1,F2,_,h1,_⟩:=h
 exact slR_ld1 (by kernel_rfl) i x h1 (fun _=>rfl) hx rfl
end
def foM (M:Mg) (xs:List Int) (i:Nat):Int:=if i=0 then 0 else (M.root (xs[i-1]?.getD 0).toNat).1
def sameM (M:Mg) (xs:List Int):Int×Int:=
 if (∀ y∈xs,hasM M.live y=true) then (if ∀y∈xs,(M.root y.toNat).1=foM M xs xs.length then (foM M xs xs.length,0) else (0,4)) else (0,5)
section
variable {M:Mg} {xs:List Int} {n i k:Nat} {x:Int}
theorem sameAll (hl:xs.length=n) (h:∀j y,j<n→xs[j]? =some y→hasM M.live y=true) (i:Nat) (hi:i<n):∃k:Nat,1≤k∧k≤256∧xs[i]? =some (k:Int):=by
 have hx:=List.getElem?_eq_getElem (l:=xs) (i:=i) (by omega)
 have hh:=h i _ hi hx
 unfold hasM at hh
 rw [Bool.and_eq_true,decide_eq_true_eq] at hh
 obtain ⟨k,hk⟩:=Int.eq_ofNat_of_zero_le (show 0≤xs[i]'(by omega) by omega)
 refine ⟨k,by omega,by omega,?_⟩
 rw [hx,hk]
theorem foM_succ (hx:xs[i]? =some (k:Int)):(M.root k).1=foM M xs (i+1):=by
 unfold foM
 rw [if_neg (by omega),Nat.add_sub_cancel,hx]
 rfl
theorem sameNext (hx:xs[i]? =some (k:Int)) (h:∀j y,j<i→xs[j]? =some y→(M.root y.toNat).1=foM M xs i) (hh:decide ((i:Int)>0)=false∨((M.root k).1 != foM M xs i)=false):∀j y,j<i+1→xs[j]? =some y→(M.root y.toNat).1=foM M xs (i+1):=fun j y h1 h2=>by
 rw [← foM_succ hx]
 by_cases e:j=i
 ·subst e
  rw [hx] at h2
  injection h2 with h2
  rw [← h2,Int.toNat_natCast]
 ·rcases hh with hh|hh
  ·simp only [decide_eq_false_iff_not] at hh
   omega
  ·have:(M.root k).1=foM M xs i:=by simpa using hh
   rw [this]
   exact h j y (by omega) h2
theorem sameM_5 (hx:xs[i]? =some x) (h:hasM M.live x=false):sameM M xs=(0,5):=by
 unfold sameM
 rw [if_neg (fun hh=>by rw [hh x (List.mem_of_getElem? hx)] at h;cases h)]
theorem all_of (hl:xs.length=n) (hlive:∀j y,j<n→xs[j]? =some y→hasM M.live y=true):∀y∈xs,hasM M.live y=true:=fun y hy=>by
 obtain ⟨j,hj,e⟩:=List.getElem_of_mem hy
 exact hlive j y (by omega) (by rw [← e];exact List.getElem?_eq_getElem hj)
theorem sameM_0 (hl:xs.length=n) (hlive:∀y∈xs,hasM M.live y=true) (h:∀j y,j<n→xs[j]? =some y→(M.root y.toNat).1=foM M xs n):sameM M xs=(foM M xs n,0):=by
 unfold sameM
 rw [if_pos hlive,hl,if_pos fun y hy=>?_]
 obtain ⟨j,hj,e⟩:=List.getElem_of_mem hy
 exact h j y (by omega) (by rw [← e];exact List.getElem?_eq_getElem hj)
theorem sameM_4 (hlive:∀y∈xs,hasM M.live y=true) (hx:xs[i]? =some (k:Int)) (h:∀j y,j<i→xs[j]? =some y→(M.root y.toNat).1=foM M xs i) (h0:decide ((i:Int)>0)=true) (h1:((M.root k).1 != foM M xs i)=true):sameM M xs=(0,4):=by
 unfold sameM
 rw [if_pos hlive,if_neg fun hh=>?_]
 have hil:i<xs.length:=(List.getElem?_eq_some_iff.1 hx).1
 have hi0:0<i:=by simp only [decide_eq_true_eq] at h0;omega
 have hp:=List.getElem?_eq_getElem (l:=xs) (i:=i-1) (by omega)
 have e1:=h (i-1) _ (by omega) hp
 have e2:=hh _ (List.mem_of_getElem? hp)
 have e3:=hh _ (List.mem_of_getElem? hx)
 rw [Int.toNat_natCast] at e3
 rw [bne_iff_ne] at h1
 exact h1 (by rw [e3,←e2,e1])
end
set_option maxRecDepth 100000 in
set_option maxHeartbeats 4000000 in
theorem mgSame {m n c:Nat} {M:Mg} {A:Option Addr} {xs:List Int} {R:Res} {F:List Nat} {w:World} (h:(sepR (slI A n c xs) R).at_ w F) (hM:∀{W:World} {X:List Nat},R.at_ W X→Blk W m tMg (mgCells M)):Calls Tryz.prog 24 #[.pointer (some ⟨m,0,none⟩),.slice A n c] w (Says (.tuple #[.int .u8 (sameM M xs).1,.int .u8 (sameM M xs).2]) (sepR (slI A n c xs) R) F w):=by
 have hMs:∀{W:World} {X:List Nat},(sepR (slI A n c xs) R).at_ W X→Blk W m tMg (mgCells M):=fun ⟨F1,F2,_,_,h2,_⟩=>hM h2
 have hxl:xs.length=n:=slI_len h
 have hmax:n≤9223372036854775807:=slI_max h
 refine TTg [VP m,.v (.slice A n c)] Tryz.func24 Tryz.ntmps24 h ?_
 refine TTa 0 ⟨[(0,VP m),(1,.v (.slice A n c))],[]⟩ ?_
 refine TT.seq (TTa 0 ⟨[(0,VP m),(1,.v (.slice A n c)),(12,VB false)],[]⟩ ?_)
 refine TTu (TT.next ?_)
 refine TTa 0 ⟨[(0,VP m),(1,.v (.slice A n c)),(6,V8 0)],[]⟩ ?_
 refine TT.seq (TTa 0 ⟨[(0,VP m),(1,.v (.slice A n c)),(6,V8 0),(13,.v (.slice A n c)),(14,V64 (n:Int)),(15,V64 0)],[]⟩ ?_)
 refine TT.block ?_
 refine TT.loop (ι:=Nat) (fun i=>i≤n∧∀j y,j<i→xs[j]? =some y→hasM M.live y=true) (fun i=>⟨[(0,VP m),(1,.v (.slice A n c)),(6,V8 0),(13,.v (.slice A n c)),(14,V64 (n:Int)),(15,V64 (i:Int))],[]⟩) (fun i=>sepR (slI A n c xs) R) (fun i=>n-i) 0 (⟨by omega,fun j y h1 h2=>by omega⟩) rfl rfl (fun i hi1=>?_)
 obtain ⟨hi1,hi2⟩:=hi1
 have hup:i<n→IntKind.i64.wrap ((i:Int)+1)=((i+1:Nat):Int):=fun h=>by rw [IntWalk.i64_in _ (by omega)];omega
 refine TTa 0 ⟨[(0,VP m),(1,.v (.slice A n c)),(6,V8 0),(13,.v (.slice A n c)),(14,V64 (n:Int)),(15,V64 (i:Int)),(16,VB (decide ((i:Int)<(n:Int))))],[]⟩ ?_
 refine TT.seq ?_
 refine TT.cond (b:=decide ((i:Int)<(n:Int))) (by kernel_rfl) (fun hc2=>?_) (fun hc2=>?_)
 ·have hin:i<n:=by simp only [decide_eq_true_eq] at hc2;omega
  obtain ⟨x,hx⟩:∃x,xs[i]? =some x:=⟨_,List.getElem?_eq_getElem (by omega)⟩
  refine TT.skip ?_
  refine TT.next ?_
  refine TT.seq ?_
  refine TT.block ?_
  refine TTe 2 [0,1] ?_
  refine RVd 0 (.idx 85 (.v (.slice A n c)) (V64 (i:Int))) (.v (.pointer (some (adr A (i*1))))) (fun ρ w F hF=>slI_ix hF hin) ?_
  refine RVd 1 (.load 3 (.v (.pointer (some (adr A (i*1)))))) (V64 x) (fun ρ w F hF=>slI_ld hF hx) ?_
  refine RVz ⟨[(0,VP m),(1,.v (.slice A n c)),(6,V8 0),(8,V64 x),(13,.v (.slice A n c)),(14,V64 (n:Int)),(15,V64 (i:Int))],[]⟩ ?_
  refine TTe 1 [2] ?_
  refine RVc 2 44 (fun ρ=>[.pointer (some ⟨m,0,none⟩),.int .i64 x]) [] (fun ρ w3 F3 hF3 hpk3=>?_)
  refine (mgHas x hF3 hMs).mono ?_
  rintro e3 w'3 ⟨rfl,hl3⟩
  refine ⟨VB (hasM M.live x),_,rfl,hl3,?_⟩
  refine RVz ⟨[(0,VP m),(1,.v (.slice A n c)),(6,V8 0),(13,.v (.slice A n c)),(14,V64 (n:Int)),(15,V64 (i:Int)),(22,VB (!(hasM M.live x)))],[]⟩ ?_
  refine TT.cond (b:= !(hasM M.live x)) (by kernel_rfl) (fun hc4=>?_) (fun hc4=>?_)
  ·refine TTa 0 ⟨[(4,V8 0),(5,V8 5)],[]⟩ ?_
   refine TTt Tryz.results24 (V8 0) (V8 5) (fun _ _ h=>h) (fun ρ a w5 hs5=>?_)
   exact ⟨by rw [sameM_5 hx (by simpa using hc4)];rfl,hs5.lands⟩
  ·refine TT.skip ?_
   refine TT.next ?_
   refine TT.p0 (s':=⟨[(0,VP m),(1,.v (.slice A n c)),(6,V8 0),(13,.v (.slice A n c)),(14,V64 (n:Int)),(15,V64 (IntKind.i64.wrap ((i:Int)+1)))],[]⟩) 0 (by kernel_rfl) ?_
   rw [hup hin]
   exact fun ρ a w hs=>⟨ρ,i+1,⟨by omega,fun j y h1 h2=>(Nat.lt_or_ge j i).elim (fun h=>hi2 j y h h2) (fun h=>by have e:j=i:=(by omega);subst e;rw [hx] at h2;injection h2 with h2;subst h2;simpa using hc4)⟩,by omega,hs⟩
 ·have hin:n=i:=by simp only [decide_eq_false_iff_not] at hc2;omega
  subst hin
  have hall:=sameAll hxl hi2
  have hlive:=all_of hxl hi2
  refine TTx ?_
  refine TT.next ?_
  refine TT.seq (TTa 0 ⟨[(0,VP m),(6,V8 0),(24,.v (.slice A n c)),(25,V64 (n:Int)),(26,V64 0)],[]⟩ ?_)
  refine TT.block ?_
  refine TT.loop (ι:=Nat) (fun i=>i≤n∧∀j y,j<i→xs[j]? =some y→(M.root y.toNat).1=foM M xs i) (fun i=>⟨[(0,VP m),(6,V8 (foM M xs i)),(24,.v (.slice A n c)),(25,V64 (n:Int)),(26,V64 (i:Int))],[]⟩) (fun i=>sepR (slI A n c xs) R) (fun i=>n-i) 0 (⟨by omega,fun j y h1 h2=>by omega⟩) rfl rfl (fun i hi6=>?_)
  obtain ⟨hi1,hi2⟩:=hi6
  have hup:i<n→IntKind.i64.wrap ((i:Int)+1)=((i+1:Nat):Int):=fun h=>by rw [IntWalk.i64_in _ (by omega)];omega
  refine TTa 0 ⟨[(0,VP m),(6,V8 (foM M xs i)),(24,.v (.slice A n c)),(25,V64 (n:Int)),(26,V64 (i:Int)),(27,VB (decide ((i:Int)<(n:Int))))],[]⟩ ?_
  refine TT.seq ?_
  refine TT.cond (b:=decide ((i:Int)<(n:Int))) (by kernel_rfl) (fun hc7=>?_) (fun hc7=>?_)
  ·have hin:i<n:=by simp only [decide_eq_true_eq] at hc7;omega
   obtain ⟨k,hk1,hk2,hx⟩:=hall i hin
   refine TT.skip ?_
   refine TT.next ?_
   refine TT.seq ?_
   refine TT.block ?_
   refine TTe 2 [1,2] ?_
   refine RVd 1 (.idx 85 (.v (.slice A n c)) (V64 (i:Int))) (.v (.pointer (some (adr A (i*1))))) (fun ρ w F hF=>slI_ix hF hin) ?_
   refine RVd 2 (.load 3 (.v (.pointer (some (adr A (i*1)))))) (V64 (k:Int)) (fun ρ w F hF=>slI_ld hF hx) ?_
   refine RVz ⟨[(0,VP m),(6,V8 (foM M xs i)),(9,V64 (i:Int)),(10,V64 (k:Int)),(24,.v (.slice A n c)),(25,V64 (n:Int)),(26,V64 (i:Int))],[]⟩ ?_
   refine TT.seq (TTe 3 [1,7,9] ?_)
   refine RV.case 1 (decide ((i:Int)>0)) (by kernel_rfl) (by kernel_rfl) (by kernel_rfl) (fun hc8=>?_) (fun hc8=>?_)
   ·refine RVd 7 (.idx 51 (.v (.pointer (some ⟨m,262,none⟩))) (V64 (k:Int))) (.v (.pointer (some ⟨m,262+k*3,none⟩))) (fun ρ w F hF=>mg_ixR (by omega)) ?_
    refine RVd 9 (.load 23 (.v (.pointer (some ⟨m,262+k*3,none⟩)))) (V8 ((M.root k).1)) (fun ρ w F hF=>mg_ldF (by omega) (hMs hF)) ?_
    refine RVz ⟨[(0,VP m),(10,V64 (k:Int)),(24,.v (.slice A n c)),(25,V64 (n:Int)),(26,V64 (i:Int)),(43,VB (((M.root k).1) != (foM M xs i)))],[]⟩ ?_
    refine TT.cond (b:=((M.root k).1) != (foM M xs i)) (by kernel_rfl) (fun hc9=>?_) (fun hc9=>?_)
    ·refine TTa 0 ⟨[(4,V8 0),(5,V8 4)],[]⟩ ?_
     refine TTt Tryz.results24 (V8 0) (V8 4) (fun _ _ h=>h) (fun ρ a w10 hs10=>?_)
     exact ⟨by rw [sameM_4 hlive hx hi2 hc8 hc9];rfl,hs10.lands⟩
    ·refine TT.skip ?_
     refine TT.next ?_
     refine TT.r (m:=2) false [4,6] 0 mixed (by kernel_rfl) ?_
     refine RVd 4 (.idx 51 (.v (.pointer (some ⟨m,262,none⟩))) (V64 (k:Int))) (.v (.pointer (some ⟨m,262+k*3,none⟩))) (fun ρ w F hF=>mg_ixR (by omega)) ?_
     refine RVd 6 (.load 23 (.v (.pointer (some ⟨m,262+k*3,none⟩)))) (V8 ((M.root k).1)) (fun ρ w F hF=>mg_ldF (by omega) (hMs hF)) ?_
     refine RV.fin (s':=⟨[(0,VP m),(6,V8 ((M.root k).1)),(24,.v (.slice A n c)),(25,V64 (n:Int)),(26,V64 (i:Int))],[]⟩) (by kernel_rfl) (by kernel_rfl) ?_
     rw [foM_succ hx]
     refine TT.next ?_
     refine TT.p0 (s':=⟨[(0,VP m),(6,V8 (foM M xs (i+1))),(24,.v (.slice A n c)),(25,V64 (n:Int)),(26,V64 (IntKind.i64.wrap ((i:Int)+1)))],[]⟩) 0 (by kernel_rfl) ?_
     rw [hup hin]
     exact fun ρ a w hs=>⟨ρ,i+1,⟨by omega,sameNext hx hi2 (by first |exact .inl hc8|exact .inr hc9)⟩,by omega,hs⟩
   ·refine RV.skip 7 (by kernel_rfl) (by kernel_rfl) ?_
    refine RV.skip 9 (by kernel_rfl) (by kernel_rfl) ?_
    refine RVz ⟨[(0,VP m),(10,V64 (k:Int)),(24,.v (.slice A n c)),(25,V64 (n:Int)),(26,V64 (i:Int)),(43,VB false)],[]⟩ ?_
    refine TTu (TT.next ?_)
    refine TT.r (m:=2) false [4,6] 0 mixed (by kernel_rfl) ?_
    refine RVd 4 (.idx 51 (.v (.pointer (some ⟨m,262,none⟩))) (V64 (k:Int))) (.v (.pointer (some ⟨m,262+k*3,none⟩))) (fun ρ w F hF=>mg_ixR (by omega)) ?_
    refine RVd 6 (.load 23 (.v (.pointer (some ⟨m,262+k*3,none⟩)))) (V8 ((M.root k).1)) (fun ρ w F hF=>mg_ldF (by omega) (hMs hF)) ?_
    refine RV.fin (s':=⟨[(0,VP m),(6,V8 ((M.root k).1)),(24,.v (.slice A n c)),(25,V64 (n:Int)),(26,V64 (i:Int))],[]⟩) (by kernel_rfl) (by kernel_rfl) ?_
    rw [foM_succ hx]
    refine TT.next ?_
    refine TT.p0 (s':=⟨[(0,VP m),(6,V8 (foM M xs (i+1))),(24,.v (.slice A n c)),(25,V64 (n:Int)),(26,V64 (IntKind.i64.wrap ((i:Int)+1)))],[]⟩) 0 (by kernel_rfl) ?_
    rw [hup hin]
    exact fun ρ a w hs=>⟨ρ,i+1,⟨by omega,sameNext hx hi2 (by first |exact .inl hc8|exact .inr hup)⟩,by omega,hs⟩
  ·have hin:n=i:=by simp only [decide_eq_false_iff_not] at hc7;omega
   subst hin
   refine TTx ?_
   refine TT.next ?_
   refine TTa 0 ⟨[(4,V8 (foM M xs n)),(5,V8 0)],[]⟩ ?_
   refine TTt Tryz.results24 (V8 (foM M xs n)) (V8 0) (fun _ _ h=>h) (fun ρ a w11 hs11=>?_)
   exact ⟨by rw [sameM_0 hxl hlive hi2];rfl,hs11.lands⟩
theorem Lands.drop {A B:Res} {F:List Nat} {w w':World} (h:Lands (sepR A B) F w w'):Lands B F w w':=by
 obtain ⟨F',⟨F1,F2,h0,h1,h2,h3⟩,h4,h5⟩:=h
 exact ⟨F2,h2,fun y hy=>h4 y ((h0 y).2 (.inr hy)),h5⟩
theorem slI_none {R:Res} {F:List Nat} {w:World} (h:R.at_ w F):(sepR (slI none 0 0 []) R).at_ w F:=⟨[],F,fun x=>by simp,slR_nil,h,fun x hx=>by cases hx⟩
set_option maxRecDepth 100000 in
theorem mgRoom_full {m n c:Nat} {M:Mg} {A:Option Addr} {xs:List Int} {R:Res} {F:List Nat} {w:World} (hfull:∀k,1≤k→k≤256→M.live k=true) (h:(sepR (slI A n c xs) R).at_ w F) (hM:∀{W:World} {X:List Nat},R.at_ W X→Blk W m tMg (mgCells M)):Calls Tryz.prog 21 #[.pointer (some ⟨m,0,none⟩),.slice A n c] w (Says (.tuple #[.int .u8 0,.int .u8 9]) (sepR (slI A n c xs) R) F w):=by
 have hMs:∀{W:World} {X:List Nat},(sepR (slI A n c xs) R).at_ W X→Blk W m tMg (mgCells M):=fun ⟨F1,F2,_,_,h2,_⟩=>hM h2
 have hz0:(((0:Nat):Int)==0)=true:=rfl
 refine TTg [VP m,.v (.slice A n c)] Tryz.func21 Tryz.ntmps21 h ?_
 refine TTa 0 ⟨[(0,VP m),(1,.v (.slice A n c))],[]⟩ ?_
 refine TT.seq (TTa 0 ⟨[(0,VP m),(1,.v (.slice A n c)),(7,VB false)],[]⟩ ?_)
 refine TTu (TT.next ?_)
 refine TT.seq (TTe 1 [1] ?_)
 refine RVc 1 42 (fun ρ=>[.pointer (some ⟨m,0,none⟩)]) [] (fun ρ w1 F1 hF1 hpk1=>?_)
 refine (mgFree hF1 hMs).mono ?_
 rintro e1 w'1 ⟨f,hf,rfl,hl1⟩
 obtain rfl:f=0:=hf.elim (fun h=>h.1) (fun h=>by have:=hfull f h.1 h.2.1;rw [h.2.2.1] at this;cases this)
 refine ⟨V64 ((0:Nat):Int),_,rfl,hl1,?_⟩
 refine RVz ⟨[(0,VP m),(1,.v (.slice A n c)),(10,VB (((0:Nat):Int)==0))],[]⟩ ?_
 rw [hz0]
 refine TTy ?_
 refine TTa 0 ⟨[(4,V8 0),(5,V8 9)],[]⟩ ?_
 refine TTt Tryz.results21 (V8 0) (V8 9) (fun _ _ h=>h) (fun ρ a w2 hs2=>?_)
 exact ⟨rfl,hs2.lands⟩
set_option maxRecDepth 100000 in
theorem mgRoom_some {m n c:Nat} {M:Mg} {A:Option Addr} {xs:List Int} {R:Res} {F:List Nat} {w:World} (hfull:¬∀k,1≤k→k≤256→M.live k=true) (h:(sepR (slI A n c xs) R).at_ w F) (hM:∀{W:World} {X:List Nat},R.at_ W X→Blk W m tMg (mgCells M)):Calls Tryz.prog 21 #[.pointer (some ⟨m,0,none⟩),.slice A n c] w (Says (.tuple #[.int .u8 (sameM M xs).1,.int .u8 (sameM M xs).2]) (sepR (slI A n c xs) R) F w):=by
 have hMs:∀{W:World} {X:List Nat},(sepR (slI A n c xs) R).at_ W X→Blk W m tMg (mgCells M):=fun ⟨F1,F2,_,_,h2,_⟩=>hM h2
 have hz0:(((0:Nat):Int)==0)=true:=rfl
 refine TTg [VP m,.v (.slice A n c)] Tryz.func21 Tryz.ntmps21 h ?_
 refine TTa 0 ⟨[(0,VP m),(1,.v (.slice A n c))],[]⟩ ?_
 refine TT.seq (TTa 0 ⟨[(0,VP m),(1,.v (.slice A n c)),(7,VB false)],[]⟩ ?_)
 refine TTu (TT.next ?_)
 refine TT.seq (TTe 1 [1] ?_)
 refine RVc 1 42 (fun ρ=>[.pointer (some ⟨m,0,none⟩)]) [] (fun ρ w1 F1 hF1 hpk1=>?_)
 refine (mgFree hF1 hMs).mono ?_
 rintro e1 w'1 ⟨f,hf,rfl,hl1⟩
 have hf0:((f:Int)==0)=false:=by have:f≠0:=(fun e=>hfull (hf.elim (fun h=>h.2) (fun h=>by omega)));simp;omega
 refine ⟨V64 (f:Int),_,rfl,hl1,?_⟩
 refine RVz ⟨[(0,VP m),(1,.v (.slice A n c)),(10,VB ((f:Int)==0))],[]⟩ ?_
 rw [hf0]
 refine TTu (TT.next ?_)
 refine TTe 1 [2] ?_
 refine RVc 2 24 (fun ρ=>[.pointer (some ⟨m,0,none⟩),.slice A n c]) [] (fun ρ w2 F2 hF2 hpk2=>?_)
 refine (mgSame hF2 hM).mono ?_
 rintro e2 w'2 ⟨rfl,hl2⟩
 refine ⟨.v (.tuple #[.int .u8 ((sameM M xs).1),.int .u8 ((sameM M xs).2)]),_,rfl,hl2,?_⟩
 refine RVz ⟨[(4,V8 ((sameM M xs).1)),(5,V8 ((sameM M xs).2))],[]⟩ ?_
 refine TTt Tryz.results21 (V8 ((sameM M xs).1)) (V8 ((sameM M xs).2)) (fun _ _ h=>h) (fun ρ a w3 hs3=>?_)
 exact ⟨rfl,hs3.lands⟩
def SliceOut (T:Option Addr→Nat→Nat→Res) (F:List Nat) (w:World) (e:Ending) (w':World):Prop:=∃(A:Option Addr) (n c:Nat),e = .returned (.slice A n c)∧Lands (T A n c) F w w'
def liveL (M:Mg) (i:Nat):List Int:=((List.range i).filter M.live).map Int.ofNat
theorem liveL_yes {M:Mg} {i:Nat} (h:M.live i=true):liveL M (i+1)=liveL M i++[(i:Int)]:=by
 unfold liveL
 rw [List.range_succ,List.filter_append,List.map_append]
 simp [h]
theorem liveL_no {M:Mg} {i:Nat} (h:M.live i=false):liveL M (i+1)=liveL M i:=by
 unfold liveL
 rw [List.range_succ,List.filter_append,List.map_append]
 simp [h]
def liveV (M:Mg):Value:= .agg ((List.range 257).map fun i=> .bool (M.live i)).toArray
theorem liveV_ld {m:Nat} {M:Mg} {w:World} (hB:Blk w m tMg (mgCells M)):(Instr.loadAt 45 (.pointer (some ⟨m,5,none⟩))).run Tryz.prog w = .ok (liveV M) w:=by
 refine run_ldR (vs:=(List.range 257).map fun i=> .bool (M.live i)) (fun j v hj=>?_) (by kernel_rfl) (by rw [List.length_map,List.length_range];kernel_rfl)
 have hj2:j<257:=by have:=(List.getElem?_eq_some_iff.1 hj).1;simpa using this
 rw [List.getElem?_map,List.getElem?_range hj2] at hj
 rw [mg_cell hB (by omega),←hj]
 unfold mgCell
 rw [if_neg (by omega),if_neg (by omega),if_neg (by omega),if_neg (by omega),if_neg (by omega),if_pos (by omega),show 5+j-5=j by omega]
 rfl
theorem liveV_ix {M:Mg} {w:World} {i:Nat} (hi:i<257):(Instr.index 45 (liveV M) (.int .i64 (i:Int))).run Tryz.prog w = .ok (.bool (M.live i)) w:=by
 have hu:Tryz.prog.underlying 45=some (.array 257 4):=by kernel_rfl
 obtain ⟨t,ht,hs⟩:=Option.map_eq_some_iff.1 (show (Tryz.prog.info? 4).map (·.size)=some 1 by kernel_rfl)
 obtain ⟨d,hd,hr⟩:=Option.map_eq_some_iff.1 (show (Tryz.prog.underlying 4).map TypeDesc.isRow=some false by kernel_rfl)
 have hr':¬d.isRow=true:=by rw [hr];decide
 have hg:(((List.range 257).map fun i=>Value.bool (M.live i)).toArray)[i]? =some (.bool (M.live i)):=by
  rw [List.getElem?_toArray,List.getElem?_map,List.getElem?_range hi]
  rfl
 unfold liveV
 simp [Instr.index,asIntOf,run_underlying hu,sizeOf,typeInfo,ht,hs,hi,part,isAgg,run_underlying hd]
 cases d<;>first |exact absurd rfl hr'|simp [hg]
set_option maxRecDepth 100000 in
theorem mgLive {m:Nat} {M:Mg} {R:Res} {F:List Nat} {w:World} (h:R.at_ w F) (hM:∀{W:World} {X:List Nat},R.at_ W X→Blk W m tMg (mgCells M)):Calls Tryz.prog 72 #[.pointer (some ⟨m,0,none⟩)] w (SliceOut (fun A n c=>sepR (slI A n c (liveL M 257)) R) F w):=by
 refine TTg [VP m] Tryz.func72 Tryz.ntmps72 h ?_
 refine TTa 0 ⟨[(0,VP m)],[]⟩ ?_
 refine TT.seq (TTa 0 ⟨[(0,VP m),(7,VB false)],[]⟩ ?_)
 refine TTu (TT.next ?_)
 refine TTa 0 ⟨[(0,VP m),(3,.v (.slice none 0 0))],[]⟩ ?_
 refine TT.seq (TTe 1 [3] ?_)
 refine RVd 3 (.load 45 (.v (.pointer (some ⟨m,5,none⟩)))) (.v (liveV M)) (fun ρ w F hF=>liveV_ld (hM hF)) ?_
 refine RVz ⟨[(3,.v (.slice none 0 0)),(11,.v (liveV M)),(12,V64 0)],[]⟩ ?_
 refine TT.block ?_
 refine TT.res (R':=sepR (slI none 0 0 (liveL M 0)) R) (fun W F h=>slI_none h) ?_
 refine TT.loop (ι:=Nat×Option Addr×Nat×Nat) (fun ⟨i,A,n,c⟩=>i≤257∧n≤i) (fun ⟨i,A,n,c⟩=>⟨[(3,.v (.slice A n c)),(11,.v (liveV M)),(12,V64 (i:Int))],[]⟩) (fun ⟨i,A,n,c⟩=>sepR (slI A n c (liveL M i)) R) (fun ⟨i,A,n,c⟩=>257-i) ⟨0,none,0,0⟩ (⟨by omega,by omega⟩) rfl rfl (fun ⟨i,A,n,c⟩ hi1=>?_)
 show TT _ _ _ ⟨[(3,.v (.slice A n c)),(11,.v (liveV M)),(12,V64 (i:Int))],[]⟩ (sepR (slI A n c (liveL M i)) R) _
 obtain ⟨hi1,hi2⟩:=hi1
 have hup:IntKind.i64.wrap ((i:Int)+1)=((i+1:Nat):Int):=i64_up (by omega)
 refine TTa 0 ⟨[(3,.v (.slice A n c)),(11,.v (liveV M)),(12,V64 (i:Int)),(13,VB (decide ((i:Int)<257)))],[]⟩ ?_
 refine TT.seq ?_
 refine TT.cond (b:=decide ((i:Int)<257)) (by kernel_rfl) (fun hc2=>?_) (fun hc2=>?_)
 ·have hi7:i<257:=by simp only [decide_eq_true_eq] at hc2;omega
  refine TT.skip ?_
  refine TT.next ?_
  refine TT.seq ?_
  refine TT.block ?_
  refine TTe 1 [1] ?_
  refine RVd 1 (.index 45 (.v (liveV M)) (V64 (i:Int))) (VB (M.live i)) (fun ρ w F hF=>liveV_ix hi7) ?_
  refine RVz ⟨[(3,.v (.slice A n c)),(4,V64 (i:Int)),(5,VB (M.live i)),(11,.v (liveV M)),(12,V64 (i:Int))],[]⟩ ?_
  refine TTa 0 ⟨[(3,.v (.slice A n c)),(4,V64 (i:Int)),(11,.v (liveV M)),(12,V64 (i:Int)),(16,VB (M.live i))],[]⟩ ?_
  refine TT.cond (b:=M.live i) (by kernel_rfl) (fun hc3=>?_) (fun hc3=>?_)
  ·refine TT.r (m:=2) false [2,3] 0 mixed (by kernel_rfl) ?_
   refine RV.bs (α:=Int) (s:=1) (enc:=fun x:Int=>[.int .i64 x]) (E:=3) 2 85 1 [(0,.int .i64 (i:Int))] #[.int .i64 (i:Int)] [(i:Int)] (by kernel_rfl) (by kernel_rfl) (by kernel_rfl) (by kernel_rfl) rfl rfl (by decide) (fun _=>rfl) (fun A1=>?_)
   refine RV.app (α:=Int) (s:=1) (enc:=fun x:Int=>[.int .i64 x]) (E:=3) 3 85 85 A A1 n c 1 1 (liveL M i) [(i:Int)] (z:= .int .i64 0) (bytes:=8) (by kernel_rfl) (by kernel_rfl) (by kernel_rfl) (by kernel_rfl) (by kernel_rfl) rfl (by decide) (by decide) (fun _=>rfl) (fun y _ u hu=>by simp at hu;subst hu;rfl) (by omega) (by decide) (fun A2 c2=>?_)
   refine RV.fin (s':=⟨[(3,.v (.slice A2 (n+1) c2)),(11,.v (liveV M)),(12,V64 (i:Int))],[]⟩) (by kernel_rfl) (by kernel_rfl) ?_
   refine TT.next ?_
   refine TT.p0 (s':=⟨[(3,.v (.slice A2 (n+1) c2)),(11,.v (liveV M)),(12,V64 (IntKind.i64.wrap ((i:Int)+1)))],[]⟩) 0 (by kernel_rfl) ?_
   rw [hup]
   rw [← liveL_yes hc3]
   exact fun ρ a w hs=>⟨ρ,⟨i+1,A2,n+1,c2⟩,⟨by omega,by omega⟩,by show 257-(i+1)<257-i;omega,hs⟩
  ·refine TT.skip ?_
   refine TT.next ?_
   refine TT.p0 (s':=⟨[(3,.v (.slice A n c)),(11,.v (liveV M)),(12,V64 (IntKind.i64.wrap ((i:Int)+1)))],[]⟩) 0 (by kernel_rfl) ?_
   rw [hup]
   rw [← liveL_no hc3]
   exact fun ρ a w hs=>⟨ρ,⟨i+1,A,n,c⟩,⟨by omega,by omega⟩,by show 257-(i+1)<257-i;omega,hs⟩
 ·have hi7:257=i:=by simp only [decide_eq_false_iff_not] at hc2;omega
  subst hi7
  refine TTx ?_
  refine TT.next ?_
  refine TTa 0 ⟨[(2,.v (.slice A n c))],[]⟩ ?_
  refine TTs Tryz.results72 (.v (.slice A n c)) (fun _ _ h=>h) (fun ρ a w4 hs4=>?_)
  exact ⟨A,n,c,rfl,hs4.lands⟩
end
end Go.Proofs.YtnlmlehcpngcgaaGreat
