/- Contract: canon's Cube. Contracts: build's may, Const, Var. What quant's and family's caches hold; the manager as a resource. -/
import Derived.Test.YtnlmlehcpngcgaaGreatQbj
import Derived.Test.YtnlmlehcpngcgaaGreatQbl
import Derived.Test.YtnlmlehcpngcgaaGreatQbi
import Derived.Test.YtnlmlehcpngcgaaGreatQbm
import Derived.Test.YtnlmlehcpngcgaaGreatQbp
namespace Go.Proofs.YtnlmlehcpngcgaaGreat
set_option linter.unusedSimpArgs false
set_option linter.unusedVariables false
section
open Go.RowKit Go.Sort
def cubeT (a b:Nat):Nat→Nat→BT
 | _,0=> .leaf true
 | l,m+1=> .br (if a.testBit l then .zeros m else cubeT a b (l+1) m) (if b.testBit l then .zeros m else cubeT a b (l+1) m)
theorem cubeT_succ (a b l m:Nat):cubeT a b l (m+1) = .br (if a.testBit l then .zeros m else cubeT a b (l+1) m) (if b.testBit l then .zeros m else cubeT a b (l+1) m):=rfl
theorem cubeT_dep (a b:Nat):∀l m,(cubeT a b l m).Dep m
 | _,0=>rfl
 | l,m+1=>by
  rw [cubeT_succ]
  refine .mk ?_ ?_<;>split<;>first |exact BT.zeros_dep m|exact cubeT_dep a b (l+1) m
set_option maxRecDepth 100000 in
set_option maxHeartbeats 4000000 in
theorem cubeE {g n room:Nat} {B:Bk} {F:List Nat} {w:World} {cs:List (Option Rec)} {free:List Int} {f:Int} (a b:Nat) (h:(engR g n room B cs free).at_ w F) (hf:1≤f∧f≤5) (han:a<2^n) (hbn:b<2^n) (hd:a &&& b=0) :
  Calls Tryz.prog 41 #[.pointer (some ⟨g,0,none⟩),.int .u8 f,.int .i64 0,.int .u16 (a:Int),.int .u16 (b:Int)] w (EOut n g n room B F w cs (fun cs' ed=>IsE cs' f n ed 0 (cubeT a b 0 n))):=by
 have hn16:=(engR_ok h).1.n16
 have hn0:decide ((0:Int)>(n:Int))=false:=by simp
 have h2n:2^n≤2^16:=Nat.pow_le_pow_right (by decide) hn16
 have ha:a<2^16:=Nat.lt_of_lt_of_le han h2n
 have hb:b<2^16:=Nat.lt_of_lt_of_le hbn h2n
 have hab:a ||| b<2^n:=Nat.or_lt_two_pow han hbn
 have hab16:a ||| b<2^16:=Nat.lt_of_lt_of_le hab h2n
 have hor:bits .or .u16 (a:Int) (b:Int)=((a ||| b:Nat):Int):=bits_orN fits_u16 ha hb
 have hor32:IntKind.u32.wrap ((a ||| b:Nat):Int)=((a ||| b:Nat):Int):=fits_u32.wrap _ (by omega)
 have hand0:((bits .and .u32 ((a ||| b:Nat):Int) 0) != 0)=false:=by
  have:=bits_andN (a:=a ||| b) (b:=0) fits_u32 (by omega) (by decide)
  rw [show ((0:Nat):Int)=0 from rfl] at this
  rw [this,Nat.and_zero]
  rfl
 have hshr:∀w:World,(binOp .shr 46 (.int .u32 ((a ||| b:Nat):Int)) (.int .i64 (n:Int))).run Tryz.prog w = .ok (.int .u32 0) w:=fun w=>by
  rw [shrN (a ||| b) n (by simp only [IntKind.bits];omega) w,Nat.div_eq_of_lt hab]
  rfl
 have hdis:((bits .and .u16 (a:Int) (b:Int)) != 0)=false:=by
  rw [bits_andN fits_u16 ha hb,hd]
  rfl
 refine TTg [VP g,V8 f,V64 0,V16 (a:Int),V16 (b:Int)] Tryz.func41 Tryz.ntmps41 h ?_
 refine TTa 0 ⟨[(0,VP g),(1,V8 f),(2,V64 0),(3,V16 (a:Int)),(4,V16 (b:Int)),(10,.p 0 0)],[(0,edB 0 0)]⟩ ?_
 refine TT.seq (TTa 10 ⟨[(0,VP g),(1,V8 f),(2,V64 0),(3,V16 (a:Int)),(4,V16 (b:Int)),(10,.p 0 0),(20,VB false)],[(0,edB 0 0)]⟩ ?_)
 refine TTu (TT.next ?_)
 refine TT.seq (TTE 1 false [1] 10 ?_)
 refine RVc 1 39 (fun ρ=>[.int .u8 f]) [] (fun ρ w1 F1 hF1 hpk1=>?_)
 refine (isForm_yes hf _).mono ?_
 rintro e1 w'1 ⟨rfl,hb1⟩
 refine ⟨VB true,_,rfl,.of_below hF1 (by rw [← hb1];exact Below.refl _ _),?_⟩
 refine RVz ⟨[(0,VP g),(1,V8 f),(2,V64 0),(3,V16 (a:Int)),(4,V16 (b:Int)),(10,.p 0 0),(24,VB false)],[(0,edB 0 0)]⟩ ?_
 refine TTu (TT.next ?_)
 refine TTE 1 false [1] 10 ?_
 refine RVc 1 45 (fun ρ=>[.pointer (some ⟨g,0,none⟩)]) [] (fun ρ w2 F2 hF2 hpk2=>?_)
 refine (engVars hF2).mono ?_
 rintro e2 w'2 ⟨rfl,hb2⟩
 refine ⟨V64 (n:Int),_,rfl,.of_below hF2 (by rw [← hb2];exact Below.refl _ _),?_⟩
 refine RVz ⟨[(0,VP g),(1,V8 f),(2,V64 0),(3,V16 (a:Int)),(4,V16 (b:Int)),(10,.p 0 0),(12,V64 (n:Int))],[(0,edB 0 0)]⟩ ?_
 refine TT.seq (TTE 5 false [5,11,13,20,25] 10 ?_)
 refine RVp 5 (.bool (decide ((0:Int)>(n:Int)))) (.bool false) (by rw [hn0]) ?_
 refine RVp 11 (.int .u32 (IntKind.u32.wrap (bits .or .u16 (a:Int) (b:Int)))) (.int .u32 ((a ||| b:Nat):Int)) (by rw [hor,hor32]) ?_
 refine RV.bin 13 .shr 46 (.int .u32 ((a ||| b:Nat):Int)) (.int .i64 (n:Int)) (.int .u32 0) (by kernel_rfl) (by kernel_rfl) (by kernel_rfl) (fun x y w=>eqGuard_int _ _ _ _ _ _ _ _ w) (fun w=>hshr w) ?_
 refine RVp 20 (.int .u32 (IntKind.u32.wrap (bits .or .u16 (a:Int) (b:Int)))) (.int .u32 ((a ||| b:Nat):Int)) (by rw [hor,hor32]) ?_
 refine RVp 25 (.bool ((bits .and .u32 ((a ||| b:Nat):Int) 0) != 0)) (.bool false) (by rw [hand0]) ?_
 refine RVz ⟨[(0,VP g),(1,V8 f),(2,V64 0),(3,V16 (a:Int)),(4,V16 (b:Int)),(10,.p 0 0),(12,V64 (n:Int)),(54,VB false)],[(0,edB 0 0)]⟩ ?_
 refine TTu (TT.next ?_)
 refine TT.seq (TTa 10 ⟨[(0,VP g),(1,V8 f),(2,V64 0),(3,V16 (a:Int)),(4,V16 (b:Int)),(10,.p 0 0),(12,V64 (n:Int)),(59,VB ((bits .and .u16 (a:Int) (b:Int)) != 0))],[(0,edB 0 0)]⟩ ?_)
 rw [hdis]
 refine TTu (TT.next ?_)
 refine TTE 1 false [2] 10 ?_
 refine RVc 2 55 (fun ρ=>[.int .u8 f,.int .i64 (n:Int)]) [] (fun ρ w3 F3 hF3 hpk3=>?_)
 refine (one_leaf f n hF3 hf (by omega)).mono ?_
 rintro e3 w'3 ⟨rfl,hl3⟩
 refine ⟨.v (Ed (if f=5 then (n:Int) else 0) 1),_,rfl,hl3,?_⟩
 refine RVz ⟨[(0,VP g),(1,V8 f),(2,V64 0),(3,V16 (a:Int)),(4,V16 (b:Int)),(10,.p 0 0),(12,V64 (n:Int)),(13,.p 13 0)],[(0,edB 0 0),(13,edB (if f=5 then (n:Int) else 0) 1)]⟩ ?_
 refine TT.seq (TTa 20 ⟨[(0,VP g),(1,V8 f),(2,V64 0),(3,V16 (a:Int)),(4,V16 (b:Int)),(10,.p 0 0),(13,.p 13 0),(14,V64 (IntKind.i64.wrap ((n:Int)-1)))],[(0,edB 0 0),(13,edB (if f=5 then (n:Int) else 0) 1)]⟩ ?_)
 rw [i64_dn (by omega)]
 refine TT.block ?_
 refine TT.loop (ι:=Nat×Nat×Int×Int×List (Option Rec)×List Int) (fun ⟨j,m,t,q,cs1,free1⟩=>j+m=n∧Grow m cs cs1 free1∧IsE cs1 f n ⟨t,q⟩ j (cubeT a b j m)) (fun ⟨j,m,t,q,cs1,free1⟩=>⟨[(0,VP g),(1,V8 f),(2,V64 0),(3,V16 (a:Int)),(4,V16 (b:Int)),(10,.p 0 0),(13,.p 13 0),(14,V64 ((j:Int)-1))],[(0,edB 0 0),(13,edB t q)]⟩) (fun ⟨j,m,t,q,cs1,free1⟩=>engR g n room B cs1 free1) (fun ⟨j,m,t,q,cs1,free1⟩=>j) ⟨n,0,if f=5 then (n:Int) else 0,1,cs,free⟩ (⟨by omega,Grow.refl (engR_ok h).2.1 _,rfl⟩) rfl rfl (fun ⟨j,m,t,q,cs1,free1⟩ hi4=>?_)
 show TT _ _ _ ⟨[(0,VP g),(1,V8 f),(2,V64 0),(3,V16 (a:Int)),(4,V16 (b:Int)),(10,.p 0 0),(13,.p 13 0),(14,V64 ((j:Int)-1))],[(0,edB 0 0),(13,edB t q)]⟩ (engR g n room B cs1 free1) _
 obtain ⟨hjm,hg,he⟩:=hi4
 refine TT.seq (TTa 20 ⟨[(0,VP g),(1,V8 f),(2,V64 0),(3,V16 (a:Int)),(4,V16 (b:Int)),(10,.p 0 0),(13,.p 13 0),(14,V64 ((j:Int)-1)),(68,VB (decide (((j:Int)-1)≥0)))],[(0,edB 0 0),(13,edB t q)]⟩ ?_)
 refine TT.cond (b:=decide (((j:Int)-1)≥0)) (by kernel_rfl) (fun hc5=>?_) (fun hc5=>?_)
 ·obtain ⟨k,rfl⟩:∃k,j=k+1:=⟨j-1,by simp only [decide_eq_true_eq] at hc5;omega⟩
  rw [show (((k+1:Nat):Int)-1)=(k:Int) from by omega]
  refine TT.skip ?_
  refine TT.next ?_
  refine TT.seq ?_
  refine TT.block ?_
  refine TT.sd0 (s':=⟨[(0,VP g),(1,V8 f),(2,V64 0),(3,V16 (a:Int)),(4,V16 (b:Int)),(10,.p 0 0),(13,.p 13 0),(14,V64 (k:Int)),(15,.p 22 0),(16,.p 23 0)],[(0,edB 0 0),(13,edB t q),(22,edB t q),(23,edB t q)]⟩) 20 mixed (by kernel_rfl) ?_
  refine TT.seq (TTE 1 false [2] 30 ?_)
  refine RV.bin 2 .shr 99 (.int .u16 (a:Int)) (.int .i64 (k:Int)) (.int .u16 ((a/2^k:Nat):Int)) (by kernel_rfl) (by kernel_rfl) (by kernel_rfl) (fun x y w=>eqGuard_int _ _ _ _ _ _ _ _ w) (fun w=>shrN a k (by simp only [IntKind.bits];omega) w) ?_
  refine RVz ⟨[(0,VP g),(1,V8 f),(2,V64 0),(3,V16 (a:Int)),(4,V16 (b:Int)),(10,.p 0 0),(13,.p 13 0),(14,V64 (k:Int)),(15,.p 22 0),(16,.p 23 0),(77,VB ((bits .and .u16 ((a/2^k:Nat):Int) 1)==1))],[(0,edB 0 0),(13,edB t q),(22,edB t q),(23,edB t q)]⟩ ?_
  rw [bit_is1 fits_u16 (by decide) ha]
  refine TT.cond (b:=a.testBit k) (by kernel_rfl) (fun hc6=>?_) (fun hc6=>?_)
  ·refine TT.p0 (s':=⟨[(0,VP g),(1,V8 f),(2,V64 0),(3,V16 (a:Int)),(4,V16 (b:Int)),(10,.p 0 0),(13,.p 13 0),(14,V64 (k:Int)),(15,.p 22 0),(16,.p 23 0)],[(0,edB 0 0),(13,edB t q),(22,edB 0 0),(23,edB t q)]⟩) 30 (by kernel_rfl) ?_
   refine TT.next ?_
   refine TT.seq (TTE 1 false [2] 30 ?_)
   refine RV.bin 2 .shr 99 (.int .u16 (b:Int)) (.int .i64 (k:Int)) (.int .u16 ((b/2^k:Nat):Int)) (by kernel_rfl) (by kernel_rfl) (by kernel_rfl) (fun x y w=>eqGuard_int _ _ _ _ _ _ _ _ w) (fun w=>shrN b k (by simp only [IntKind.bits];omega) w) ?_
   refine RVz ⟨[(0,VP g),(1,V8 f),(2,V64 0),(3,V16 (a:Int)),(4,V16 (b:Int)),(10,.p 0 0),(13,.p 13 0),(14,V64 (k:Int)),(15,.p 22 0),(16,.p 23 0),(83,VB ((bits .and .u16 ((b/2^k:Nat):Int) 1)==1))],[(0,edB 0 0),(13,edB t q),(22,edB 0 0),(23,edB t q)]⟩ ?_
   rw [bit_is1 fits_u16 (by decide) hb]
   refine TT.cond (b:=b.testBit k) (by kernel_rfl) (fun hc7=>?_) (fun hc7=>?_)
   ·refine TT.p0 (s':=⟨[(0,VP g),(1,V8 f),(2,V64 0),(3,V16 (a:Int)),(4,V16 (b:Int)),(10,.p 0 0),(13,.p 13 0),(14,V64 (k:Int)),(15,.p 22 0),(16,.p 23 0)],[(0,edB 0 0),(13,edB t q),(22,edB 0 0),(23,edB 0 0)]⟩) 30 (by kernel_rfl) ?_
    refine TT.next ?_
    refine TTE 1 false [5] 30 ?_
    refine RVc 5 56 (fun ρ=>[.pointer (some ⟨g,0,none⟩),.int .u8 f,.int .i64 (k:Int),Ed 0 0,Ed 0 0]) [] (fun ρ w8 F8 hF8 hpk8=>?_)
    refine (mkC (lo:=⟨0,0⟩) (hi:=⟨0,0⟩) hF8 hf (by omega) (by omega) (BT.zeros_dep m) (BT.zeros_dep m) isE_zeros isE_zeros).mono ?_
    rintro e8 w'8 ⟨t8,q8,code8,cs8,free8,rfl,hl8,hg8,(⟨rfl,hP8⟩|⟨rfl,rfl,rfl,hfl8⟩)⟩
    ·refine ⟨.v (.tuple #[Ed t8 q8,.int .u8 0]),_,rfl,hl8,?_⟩
     refine RVz ⟨[(0,VP g),(1,V8 f),(2,V64 0),(3,V16 (a:Int)),(4,V16 (b:Int)),(10,.p 0 0),(13,.p 13 0),(14,V64 (k:Int)),(17,.p 39 0),(18,V8 0)],[(0,edB 0 0),(13,edB t q),(39,edB t8 q8)]⟩ ?_
     refine TT.seq (TTa 40 ⟨[(0,VP g),(1,V8 f),(2,V64 0),(3,V16 (a:Int)),(4,V16 (b:Int)),(10,.p 0 0),(13,.p 13 0),(14,V64 (k:Int)),(17,.p 39 0),(18,V8 0),(95,VB false)],[(0,edB 0 0),(13,edB t q),(39,edB t8 q8)]⟩ ?_)
     refine TTu (TT.next ?_)
     refine TT.p0 (s':=⟨[(0,VP g),(1,V8 f),(2,V64 0),(3,V16 (a:Int)),(4,V16 (b:Int)),(10,.p 0 0),(13,.p 13 0),(14,V64 (k:Int))],[(0,edB 0 0),(13,edB t8 q8)]⟩) 40 (by kernel_rfl) ?_
     refine TT.next ?_
     refine TT.p0 (s':=⟨[(0,VP g),(1,V8 f),(2,V64 0),(3,V16 (a:Int)),(4,V16 (b:Int)),(10,.p 0 0),(13,.p 13 0),(14,V64 (IntKind.i64.wrap ((k:Int)-1)))],[(0,edB 0 0),(13,edB t8 q8)]⟩) 20 (by kernel_rfl) ?_
     rw [i64_dn (by omega)]
     exact fun ρ a w hs=>⟨ρ,⟨k,m+1,t8,q8,cs8,free8⟩,⟨by omega,hg.trans hg8 (Nat.le_refl _),by rw [cubeT_succ,hc6,hc7];exact hP8⟩,Nat.lt_succ_self k,hs⟩
    ·refine ⟨.v (.tuple #[Ed 0 0,.int .u8 6]),_,rfl,hl8,?_⟩
     refine RVz ⟨[(0,VP g),(1,V8 f),(2,V64 0),(3,V16 (a:Int)),(4,V16 (b:Int)),(10,.p 0 0),(13,.p 13 0),(14,V64 (k:Int)),(17,.p 39 0),(18,V8 6)],[(0,edB 0 0),(13,edB t q),(39,edB 0 0)]⟩ ?_
     refine TT.seq (TTa 40 ⟨[(0,VP g),(1,V8 f),(2,V64 0),(3,V16 (a:Int)),(4,V16 (b:Int)),(10,.p 0 0),(13,.p 13 0),(14,V64 (k:Int)),(17,.p 39 0),(18,V8 6),(95,VB true)],[(0,edB 0 0),(13,edB t q),(39,edB 0 0)]⟩ ?_)
     refine TTy ?_
     refine TTa 40 ⟨[(10,.p 0 0),(11,V8 6)],[(0,edB 0 0)]⟩ ?_
     refine TTt Tryz.results41 (.v (Ed 0 0)) (V8 6) (fun _ _ h=>h) (fun ρ a w9 hs9=>?_)
     exact ⟨0,0,6,_,_,rfl,hs9.lands,(hg.trans hg8 (by omega)),.inr ⟨rfl,rfl,rfl,hfl8⟩⟩
   ·refine TT.skip ?_
    refine TT.next ?_
    refine TTE 1 false [5] 30 ?_
    refine RVc 5 56 (fun ρ=>[.pointer (some ⟨g,0,none⟩),.int .u8 f,.int .i64 (k:Int),Ed 0 0,Ed t q]) [] (fun ρ w10 F10 hF10 hpk10=>?_)
    refine (mkC (lo:=⟨0,0⟩) (hi:=⟨t,q⟩) hF10 hf (by omega) (by omega) (BT.zeros_dep m) (cubeT_dep a b (k+1) m) isE_zeros he).mono ?_
    rintro e10 w'10 ⟨t10,q10,code10,cs10,free10,rfl,hl10,hg10,(⟨rfl,hP10⟩|⟨rfl,rfl,rfl,hfl10⟩)⟩
    ·refine ⟨.v (.tuple #[Ed t10 q10,.int .u8 0]),_,rfl,hl10,?_⟩
     refine RVz ⟨[(0,VP g),(1,V8 f),(2,V64 0),(3,V16 (a:Int)),(4,V16 (b:Int)),(10,.p 0 0),(13,.p 13 0),(14,V64 (k:Int)),(17,.p 39 0),(18,V8 0)],[(0,edB 0 0),(13,edB t q),(39,edB t10 q10)]⟩ ?_
     refine TT.seq (TTa 40 ⟨[(0,VP g),(1,V8 f),(2,V64 0),(3,V16 (a:Int)),(4,V16 (b:Int)),(10,.p 0 0),(13,.p 13 0),(14,V64 (k:Int)),(17,.p 39 0),(18,V8 0),(95,VB false)],[(0,edB 0 0),(13,edB t q),(39,edB t10 q10)]⟩ ?_)
     refine TTu (TT.next ?_)
     refine TT.p0 (s':=⟨[(0,VP g),(1,V8 f),(2,V64 0),(3,V16 (a:Int)),(4,V16 (b:Int)),(10,.p 0 0),(13,.p 13 0),(14,V64 (k:Int))],[(0,edB 0 0),(13,edB t10 q10)]⟩) 40 (by kernel_rfl) ?_
     refine TT.next ?_
     refine TT.p0 (s':=⟨[(0,VP g),(1,V8 f),(2,V64 0),(3,V16 (a:Int)),(4,V16 (b:Int)),(10,.p 0 0),(13,.p 13 0),(14,V64 (IntKind.i64.wrap ((k:Int)-1)))],[(0,edB 0 0),(13,edB t10 q10)]⟩) 20 (by kernel_rfl) ?_
     rw [i64_dn (by omega)]
     exact fun ρ a w hs=>⟨ρ,⟨k,m+1,t10,q10,cs10,free10⟩,⟨by omega,hg.trans hg10 (Nat.le_refl _),by rw [cubeT_succ,hc6,hc7];exact hP10⟩,Nat.lt_succ_self k,hs⟩
    ·refine ⟨.v (.tuple #[Ed 0 0,.int .u8 6]),_,rfl,hl10,?_⟩
     refine RVz ⟨[(0,VP g),(1,V8 f),(2,V64 0),(3,V16 (a:Int)),(4,V16 (b:Int)),(10,.p 0 0),(13,.p 13 0),(14,V64 (k:Int)),(17,.p 39 0),(18,V8 6)],[(0,edB 0 0),(13,edB t q),(39,edB 0 0)]⟩ ?_
     refine TT.seq (TTa 40 ⟨[(0,VP g),(1,V8 f),(2,V64 0),(3,V16 (a:Int)),(4,V16 (b:Int)),(10,.p 0 0),(13,.p 13 0),(14,V64 (k:Int)),(17,.p 39 0),(18,V8 6),(95,VB true)],[(0,edB 0 0),(13,edB t q),(39,edB 0 0)]⟩ ?_)
     refine TTy ?_
     refine TTa 40 ⟨[(10,.p 0 0),(11,V8 6)],[(0,edB 0 0)]⟩ ?_
     refine TTt Tryz.results41 (.v (Ed 0 0)) (V8 6) (fun _ _ h=>h) (fun ρ a w11 hs11=>?_)
     exact ⟨0,0,6,_,_,rfl,hs11.lands,(hg.trans hg10 (by omega)),.inr ⟨rfl,rfl,rfl,hfl10⟩⟩
  ·refine TT.skip ?_
   refine TT.next ?_
   refine TT.seq (TTE 1 false [2] 30 ?_)
   refine RV.bin 2 .shr 99 (.int .u16 (b:Int)) (.int .i64 (k:Int)) (.int .u16 ((b/2^k:Nat):Int)) (by kernel_rfl) (by kernel_rfl) (by kernel_rfl) (fun x y w=>eqGuard_int _ _ _ _ _ _ _ _ w) (fun w=>shrN b k (by simp only [IntKind.bits];omega) w) ?_
   refine RVz ⟨[(0,VP g),(1,V8 f),(2,V64 0),(3,V16 (a:Int)),(4,V16 (b:Int)),(10,.p 0 0),(13,.p 13 0),(14,V64 (k:Int)),(15,.p 22 0),(16,.p 23 0),(83,VB ((bits .and .u16 ((b/2^k:Nat):Int) 1)==1))],[(0,edB 0 0),(13,edB t q),(22,edB t q),(23,edB t q)]⟩ ?_
   rw [bit_is1 fits_u16 (by decide) hb]
   refine TT.cond (b:=b.testBit k) (by kernel_rfl) (fun hc12=>?_) (fun hc12=>?_)
   ·refine TT.p0 (s':=⟨[(0,VP g),(1,V8 f),(2,V64 0),(3,V16 (a:Int)),(4,V16 (b:Int)),(10,.p 0 0),(13,.p 13 0),(14,V64 (k:Int)),(15,.p 22 0),(16,.p 23 0)],[(0,edB 0 0),(13,edB t q),(22,edB t q),(23,edB 0 0)]⟩) 30 (by kernel_rfl) ?_
    refine TT.next ?_
    refine TTE 1 false [5] 30 ?_
    refine RVc 5 56 (fun ρ=>[.pointer (some ⟨g,0,none⟩),.int .u8 f,.int .i64 (k:Int),Ed t q,Ed 0 0]) [] (fun ρ w13 F13 hF13 hpk13=>?_)
    refine (mkC (lo:=⟨t,q⟩) (hi:=⟨0,0⟩) hF13 hf (by omega) (by omega) (cubeT_dep a b (k+1) m) (BT.zeros_dep m) he isE_zeros).mono ?_
    rintro e13 w'13 ⟨t13,q13,code13,cs13,free13,rfl,hl13,hg13,(⟨rfl,hP13⟩|⟨rfl,rfl,rfl,hfl13⟩)⟩
    ·refine ⟨.v (.tuple #[Ed t13 q13,.int .u8 0]),_,rfl,hl13,?_⟩
     refine RVz ⟨[(0,VP g),(1,V8 f),(2,V64 0),(3,V16 (a:Int)),(4,V16 (b:Int)),(10,.p 0 0),(13,.p 13 0),(14,V64 (k:Int)),(17,.p 39 0),(18,V8 0)],[(0,edB 0 0),(13,edB t q),(39,edB t13 q13)]⟩ ?_
     refine TT.seq (TTa 40 ⟨[(0,VP g),(1,V8 f),(2,V64 0),(3,V16 (a:Int)),(4,V16 (b:Int)),(10,.p 0 0),(13,.p 13 0),(14,V64 (k:Int)),(17,.p 39 0),(18,V8 0),(95,VB false)],[(0,edB 0 0),(13,edB t q),(39,edB t13 q13)]⟩ ?_)
     refine TTu (TT.next ?_)
     refine TT.p0 (s':=⟨[(0,VP g),(1,V8 f),(2,V64 0),(3,V16 (a:Int)),(4,V16 (b:Int)),(10,.p 0 0),(13,.p 13 0),(14,V64 (k:Int))],[(0,edB 0 0),(13,edB t13 q13)]⟩) 40 (by kernel_rfl) ?_
     refine TT.next ?_
     refine TT.p0 (s':=⟨[(0,VP g),(1,V8 f),(2,V64 0),(3,V16 (a:Int)),(4,V16 (b:Int)),(10,.p 0 0),(13,.p 13 0),(14,V64 (IntKind.i64.wrap ((k:Int)-1)))],[(0,edB 0 0),(13,edB t13 q13)]⟩) 20 (by kernel_rfl) ?_
     rw [i64_dn (by omega)]
     exact fun ρ a w hs=>⟨ρ,⟨k,m+1,t13,q13,cs13,free13⟩,⟨by omega,hg.trans hg13 (Nat.le_refl _),by rw [cubeT_succ,hc6,hc12];exact hP13⟩,Nat.lt_succ_self k,hs⟩
    ·refine ⟨.v (.tuple #[Ed 0 0,.int .u8 6]),_,rfl,hl13,?_⟩
     refine RVz ⟨[(0,VP g),(1,V8 f),(2,V64 0),(3,V16 (a:Int)),(4,V16 (b:Int)),(10,.p 0 0),(13,.p 13 0),(14,V64 (k:Int)),(17,.p 39 0),(18,V8 6)],[(0,edB 0 0),(13,edB t q),(39,edB 0 0)]⟩ ?_
     refine TT.seq (TTa 40 ⟨[(0,VP g),(1,V8 f),(2,V64 0),(3,V16 (a:Int)),(4,V16 (b:Int)),(10,.p 0 0),(13,.p 13 0),(14,V64 (k:Int)),(17,.p 39 0),(18,V8 6),(95,VB true)],[(0,edB 0 0),(13,edB t q),(39,edB 0 0)]⟩ ?_)
     refine TTy ?_
     refine TTa 40 ⟨[(10,.p 0 0),(11,V8 6)],[(0,edB 0 0)]⟩ ?_
     refine TTt Tryz.results41 (.v (Ed 0 0)) (V8 6) (fun _ _ h=>h) (fun ρ a w14 hs14=>?_)
     exact ⟨0,0,6,_,_,rfl,hs14.lands,(hg.trans hg13 (by omega)),.inr ⟨rfl,rfl,rfl,hfl13⟩⟩
   ·refine TT.skip ?_
    refine TT.next ?_
    refine TTE 1 false [5] 30 ?_
    refine RVc 5 56 (fun ρ=>[.pointer (some ⟨g,0,none⟩),.int .u8 f,.int .i64 (k:Int),Ed t q,Ed t q]) [] (fun ρ w15 F15 hF15 hpk15=>?_)
    refine (mkC (lo:=⟨t,q⟩) (hi:=⟨t,q⟩) hF15 hf (by omega) (by omega) (cubeT_dep a b (k+1) m) (cubeT_dep a b (k+1) m) he he).mono ?_
    rintro e15 w'15 ⟨t15,q15,code15,cs15,free15,rfl,hl15,hg15,(⟨rfl,hP15⟩|⟨rfl,rfl,rfl,hfl15⟩)⟩
    ·refine ⟨.v (.tuple #[Ed t15 q15,.int .u8 0]),_,rfl,hl15,?_⟩
     refine RVz ⟨[(0,VP g),(1,V8 f),(2,V64 0),(3,V16 (a:Int)),(4,V16 (b:Int)),(10,.p 0 0),(13,.p 13 0),(14,V64 (k:Int)),(17,.p 39 0),(18,V8 0)],[(0,edB 0 0),(13,edB t q),(39,edB t15 q15)]⟩ ?_
     refine TT.seq (TTa 40 ⟨[(0,VP g),(1,V8 f),(2,V64 0),(3,V16 (a:Int)),(4,V16 (b:Int)),(10,.p 0 0),(13,.p 13 0),(14,V64 (k:Int)),(17,.p 39 0),(18,V8 0),(95,VB false)],[(0,edB 0 0),(13,edB t q),(39,edB t15 q15)]⟩ ?_)
     refine TTu (TT.next ?_)
     refine TT.p0 (s':=⟨[(0,VP g),(1,V8 f),(2,V64 0),(3,V16 (a:Int)),(4,V16 (b:Int)),(10,.p 0 0),(13,.p 13 0),(14,V64 (k:Int))],[(0,edB 0 0),(13,edB t15 q15)]⟩) 40 (by kernel_rfl) ?_
     refine TT.next ?_
     refine TT.p0 (s':=⟨[(0,VP g),(1,V8 f),(2,V64 0),(3,V16 (a:Int)),(4,V16 (b:Int)),(10,.p 0 0),(13,.p 13 0),(14,V64 (IntKind.i64.wrap ((k:Int)-1)))],[(0,edB 0 0),(13,edB t15 q15)]⟩) 20 (by kernel_rfl) ?_
     rw [i64_dn (by omega)]
     exact fun ρ a w hs=>⟨ρ,⟨k,m+1,t15,q15,cs15,free15⟩,⟨by omega,hg.trans hg15 (Nat.le_refl _),by rw [cubeT_succ,hc6,hc12];exact hP15⟩,Nat.lt_succ_self k,hs⟩
    ·refine ⟨.v (.tuple #[Ed 0 0,.int .u8 6]),_,rfl,hl15,?_⟩
     refine RVz ⟨[(0,VP g),(1,V8 f),(2,V64 0),(3,V16 (a:Int)),(4,V16 (b:Int)),(10,.p 0 0),(13,.p 13 0),(14,V64 (k:Int)),(17,.p 39 0),(18,V8 6)],[(0,edB 0 0),(13,edB t q),(39,edB 0 0)]⟩ ?_
     refine TT.seq (TTa 40 ⟨[(0,VP g),(1,V8 f),(2,V64 0),(3,V16 (a:Int)),(4,V16 (b:Int)),(10,.p 0 0),(13,.p 13 0),(14,V64 (k:Int)),(17,.p 39 0),(18,V8 6),(95,VB true)],[(0,edB 0 0),(13,edB t q),(39,edB 0 0)]⟩ ?_)
     refine TTy ?_
     refine TTa 40 ⟨[(10,.p 0 0),(11,V8 6)],[(0,edB 0 0)]⟩ ?_
     refine TTt Tryz.results41 (.v (Ed 0 0)) (V8 6) (fun _ _ h=>h) (fun ρ a w16 hs16=>?_)
     exact ⟨0,0,6,_,_,rfl,hs16.lands,(hg.trans hg15 (by omega)),.inr ⟨rfl,rfl,rfl,hfl15⟩⟩
 ·have hj0:j=0:=by simp only [decide_eq_false_iff_not] at hc5;omega
  subst hj0
  refine TTx ?_
  refine TT.next ?_
  refine TTa 20 ⟨[(10,.p 0 0),(11,V8 0)],[(0,edB t q)]⟩ ?_
  refine TTt Tryz.results41 (.v (Ed t q)) (V8 0) (fun _ _ h=>h) (fun ρ a w17 hs17=>?_)
  exact ⟨t,q,0,_,_,rfl,hs17.lands,(show m=n from by omega)▸hg,.inl ⟨rfl,(show m=n from by omega)▸he⟩⟩
def ordR (o:Nat) (ps ls:List Int):Res:=⟨fun W F=>OrdAt W F o ps ls,(fun h hc hd=>h.chg hc hd),(fun h=>h.lt)⟩
def ordB (o:Nat) (ps ls:List Int):Bk:=⟨fun _=>ordR o ps ls,fun _ h=>h⟩
def HasOrd (B:Bk) (o:Nat) (ps ls:List Int):Prop:=∀(cs:List (Option Rec)) (W:World) (F:List Nat),(B.at_ cs).at_ W F→∃Fo,OrdAt W Fo o ps ls
theorem HasOrd.left {A B:Bk} {o:Nat} {ps ls:List Int} (h:HasOrd A o ps ls):HasOrd (A.sep B) o ps ls:=fun cs W F ⟨F1,F2,_,h1,_,_⟩=>h cs W F1 h1
theorem HasOrd.right {A B:Bk} {o:Nat} {ps ls:List Int} (h:HasOrd B o ps ls):HasOrd (A.sep B) o ps ls:=fun cs W F ⟨F1,F2,_,_,h2,_⟩=>h cs W F2 h2
theorem hasOrd_ordB (o:Nat) (ps ls:List Int):HasOrd (ordB o ps ls) o ps ls:=fun _ _ F h=>⟨F,h⟩
def lvN (ls:List Int) (x:Int):Nat:=(atI ls x).toNat
structure OrdOk (n:Nat) (ps ls:List Int):Prop where
 perm:IsPerm ps
 inv:InvOf ps ls
 np:ps.length=n
 nl:ls.length=n
 lvs:∀x:Int,0≤x→x<n→0≤atI ls x∧atI ls x<n
theorem OrdOk.lv {n:Nat} {ps ls:List Int} {x:Int} (h:OrdOk n ps ls) (hx:0≤x∧x<n):lvN ls x<n:=by
 have:=h.lvs x hx.1 hx.2
 unfold lvN
 omega
theorem OrdOk.lvi {n:Nat} {ps ls:List Int} {x:Int} (h:OrdOk n ps ls) (hx:0≤x∧x<n):(lvN ls x:Int)=atI ls x:=by
 have:=h.lvs x hx.1 hx.2
 unfold lvN
 omega
section
variable {g n room o:Nat} {B:Bk} {F:List Nat} {w:World} {cs:List (Option Rec)} {free:List Int} {ps ls:List Int}
theorem engOrd (h:(engR g n room B cs free).at_ w F) (hB:HasOrd B o ps ls):∃Fo,OrdAt w Fo o ps ls:=by
 obtain ⟨F1,F2,h0,h1,h2,h3⟩:=h
 exact hB cs w F2 h2
theorem engOVars (h:(engR g n room B cs free).at_ w F) (hB:HasOrd B o ps ls) (hO:OrdOk n ps ls):Calls Tryz.prog 54 #[.pointer (some ⟨o,0,none⟩)] w (Says (.int .i64 (n:Int)) (engR g n room B cs free) F w):=by
 obtain ⟨Fo,ho⟩:=engOrd h hB
 refine (orderVars_any Fo o ps ls w ho).mono ?_
 rintro e w' ⟨rfl,rfl⟩
 rw [hO.np]
 exact ⟨rfl,.of_below h (Below.refl _ _)⟩
theorem engLevel {x:Int} (h:(engR g n room B cs free).at_ w F) (hB:HasOrd B o ps ls) (hO:OrdOk n ps ls) (hx:0≤x∧x<n):Calls Tryz.prog 46 #[.pointer (some ⟨o,0,none⟩),.int .i64 x] w (Says (.int .i64 (lvN ls x:Int)) (engR g n room B cs free) F w):=by
 obtain ⟨Fo,ho⟩:=engOrd h hB
 refine (orderLevel_any Fo o ps ls x w ho).mono ?_
 rintro e w' ⟨rfl,rfl⟩
 rw [hO.lvi hx]
 exact ⟨rfl,.of_below h (Below.refl _ _)⟩
end
theorem mayE {g n room o:Nat} {B:Bk} {F:List Nat} {w:World} {cs:List (Option Rec)} {free:List Int} {ps ls:List Int} {f:Int} (h:(engR g n room B cs free).at_ w F) (hB:HasOrd B o ps ls) (hO:OrdOk n ps ls) (hf:1≤f∧f≤5):Calls Tryz.prog 40 #[.pointer (some ⟨g,0,none⟩),.pointer (some ⟨o,0,none⟩),.int .u8 f] w (Says (.int .u8 0) (engR g n room B cs free) F w):=by
 have hnn:((n:Int) != (n:Int))=false:=by simp
 refine TTg [VP g,VP o,V8 f] Tryz.func40 Tryz.ntmps40 h ?_
 refine TTa 0 ⟨[(0,VP g),(1,VP o),(2,V8 f)],[]⟩ ?_
 refine TT.seq ?_
 refine TT.block ?_
 refine TTa 0 ⟨[(0,VP g),(1,VP o),(2,V8 f),(7,VB false)],[]⟩ ?_
 refine TTn ?_
 refine TTe 2 [1,3] ?_
 refine RVc 1 45 (fun ρ=>[.pointer (some ⟨g,0,none⟩)]) [] (fun ρ w1 F1 hF1 hpk1=>?_)
 refine (engVars hF1).mono ?_
 rintro e1 w'1 ⟨rfl,hb1⟩
 refine ⟨V64 (n:Int),_,rfl,.of_below hF1 (by rw [← hb1];exact Below.refl _ _),?_⟩
 refine RVc 3 54 (fun ρ=>[.pointer (some ⟨o,0,none⟩)]) [] (fun ρ w2 F2 hF2 hpk2=>?_)
 refine (engOVars hF2 hB hO).mono ?_
 rintro e2 w'2 ⟨rfl,hl2⟩
 refine ⟨V64 (n:Int),_,rfl,hl2,?_⟩
 refine RVz ⟨[(2,V8 f),(14,VB ((n:Int) != (n:Int)))],[]⟩ ?_
 rw [hnn]
 refine TTn ?_
 refine TTe 1 [1] ?_
 refine RVc 1 39 (fun ρ=>[.int .u8 f]) [] (fun ρ w3 F3 hF3 hpk3=>?_)
 refine (isForm_yes hf _).mono ?_
 rintro e3 w'3 ⟨rfl,hb3⟩
 refine ⟨VB true,_,rfl,.of_below hF3 (by rw [← hb3];exact Below.refl _ _),?_⟩
 refine RVz ⟨[(20,VB false)],[]⟩ ?_
 refine TTu (TT.next ?_)
 refine TTa 0 ⟨[(6,V8 0)],[]⟩ ?_
 refine TTs Tryz.results40 (V8 0) (fun _ _ h=>h) (fun ρ a w4 hs4=>?_)
 exact ⟨rfl,hs4.lands⟩
theorem constE_yes {g n room o:Nat} {B:Bk} {F:List Nat} {w:World} {cs:List (Option Rec)} {free:List Int} {ps ls:List Int} {f:Int} (h:(engR g n room B cs free).at_ w F) (hB:HasOrd B o ps ls) (hO:OrdOk n ps ls) (hf:1≤f∧f≤5):Calls Tryz.prog 20 #[.pointer (some ⟨g,0,none⟩),.pointer (some ⟨o,0,none⟩),.int .u8 f,.bool true] w (EOut n g n room B F w cs (fun cs' ed=>IsE cs' f n ed 0 (cubeT 0 0 0 n))):=by
 refine TTg [VP g,VP o,V8 f,VB true] Tryz.func20 Tryz.ntmps20 h ?_
 refine TTa 0 ⟨[(0,VP g),(1,VP o),(2,V8 f),(3,VB true),(8,.p 0 0)],[(0,edB 0 0)]⟩ ?_
 refine TT.seq (TTE 1 false [3] 10 ?_)
 refine RVc 3 40 (fun ρ=>[.pointer (some ⟨g,0,none⟩),.pointer (some ⟨o,0,none⟩),.int .u8 f]) [] (fun ρ w1 F1 hF1 hpk1=>?_)
 refine (mayE hF1 hB hO hf).mono ?_
 rintro e1 w'1 ⟨rfl,hl1⟩
 refine ⟨V8 0,_,rfl,hl1,?_⟩
 refine RVz ⟨[(0,VP g),(2,V8 f),(3,VB true),(8,.p 0 0),(10,V8 0)],[(0,edB 0 0)]⟩ ?_
 refine TTa 10 ⟨[(0,VP g),(2,V8 f),(8,.p 0 0),(10,V8 0),(20,VB false)],[(0,edB 0 0)]⟩ ?_
 refine TTu (TT.next ?_)
 refine TTE 1 false [2] 10 ?_
 refine RVc 2 41 (fun ρ=>[.pointer (some ⟨g,0,none⟩),.int .u8 f,.int .i64 0,.int .u16 0,.int .u16 0]) [] (fun ρ w2 F2 hF2 hpk2=>?_)
 refine (cubeE 0 0 hF2 hf (Nat.two_pow_pos n) (Nat.two_pow_pos n) rfl).mono ?_
 rintro e2 w'2 ⟨t2,q2,code2,cs2,free2,rfl,hl2,hg2,(⟨rfl,hP2⟩|⟨rfl,rfl,rfl,hfl2⟩)⟩
 ·refine ⟨.v (.tuple #[Ed t2 q2,.int .u8 0]),_,rfl,hl2,?_⟩
  refine RVz ⟨[(8,.p 0 0),(9,V8 0)],[(0,edB t2 q2)]⟩ ?_
  refine TTt Tryz.results20 (.v (Ed t2 q2)) (V8 0) (fun _ _ h=>h) (fun ρ a w3 hs3=>?_)
  exact ⟨t2,q2,0,_,_,rfl,hs3.lands,hg2,.inl ⟨rfl,hP2⟩⟩
 ·refine ⟨.v (.tuple #[Ed 0 0,.int .u8 6]),_,rfl,hl2,?_⟩
  refine RVz ⟨[(8,.p 0 0),(9,V8 6)],[(0,edB 0 0)]⟩ ?_
  refine TTt Tryz.results20 (.v (Ed 0 0)) (V8 6) (fun _ _ h=>h) (fun ρ a w4 hs4=>?_)
  exact ⟨0,0,6,_,_,rfl,hs4.lands,hg2,.inr ⟨rfl,rfl,rfl,hfl2⟩⟩
theorem constE_no {g n room o:Nat} {B:Bk} {F:List Nat} {w:World} {cs:List (Option Rec)} {free:List Int} {ps ls:List Int} {f:Int} (h:(engR g n room B cs free).at_ w F) (hB:HasOrd B o ps ls) (hO:OrdOk n ps ls) (hf:1≤f∧f≤5):Calls Tryz.prog 20 #[.pointer (some ⟨g,0,none⟩),.pointer (some ⟨o,0,none⟩),.int .u8 f,.bool false] w (Says (.tuple #[Ed 0 0,.int .u8 0]) (engR g n room B cs free) F w):=by
 refine TTg [VP g,VP o,V8 f,VB false] Tryz.func20 Tryz.ntmps20 h ?_
 refine TTa 0 ⟨[(0,VP g),(1,VP o),(2,V8 f),(3,VB false),(8,.p 0 0)],[(0,edB 0 0)]⟩ ?_
 refine TT.seq (TTE 1 false [3] 10 ?_)
 refine RVc 3 40 (fun ρ=>[.pointer (some ⟨g,0,none⟩),.pointer (some ⟨o,0,none⟩),.int .u8 f]) [] (fun ρ w1 F1 hF1 hpk1=>?_)
 refine (mayE hF1 hB hO hf).mono ?_
 rintro e1 w'1 ⟨rfl,hl1⟩
 refine ⟨V8 0,_,rfl,hl1,?_⟩
 refine RVz ⟨[(0,VP g),(2,V8 f),(3,VB false),(8,.p 0 0),(10,V8 0)],[(0,edB 0 0)]⟩ ?_
 refine TTa 10 ⟨[(0,VP g),(2,V8 f),(8,.p 0 0),(10,V8 0),(20,VB true)],[(0,edB 0 0)]⟩ ?_
 refine TTy ?_
 refine TTa 10 ⟨[(8,.p 0 0),(9,V8 0)],[(0,edB 0 0)]⟩ ?_
 refine TTt Tryz.results20 (.v (Ed 0 0)) (V8 0) (fun _ _ h=>h) (fun ρ a w2 hs2=>?_)
 exact ⟨rfl,hs2.lands⟩
set_option maxRecDepth 100000 in
theorem varE {g n room o:Nat} {B:Bk} {F:List Nat} {w:World} {cs:List (Option Rec)} {free:List Int} {ps ls:List Int} {f:Int} {x:Int} (h:(engR g n room B cs free).at_ w F) (hB:HasOrd B o ps ls) (hO:OrdOk n ps ls) (hf:1≤f∧f≤5) (hx:0≤x∧x<n):Calls Tryz.prog 26 #[.pointer (some ⟨g,0,none⟩),.pointer (some ⟨o,0,none⟩),.int .u8 f,.int .i64 x] w (EOut n g n room B F w cs (fun cs' ed=>IsE cs' f n ed 0 (cubeT (1*2^lvN ls x) 0 0 n))):=by
 have hn16:=(engR_ok h).1.n16
 have hlv:=hO.lv hx
 have hx0:decide (x<0)=false:=by simp;omega
 have hx1:decide (x≥(n:Int))=false:=by simp;omega
 have h2:1*2^lvN ls x<2^n:=by rw [Nat.one_mul];exact Nat.pow_lt_pow_right (by decide) hlv
 have h3:2^n≤2^16:=Nat.pow_le_pow_right (by decide) hn16
 refine TTg [VP g,VP o,V8 f,V64 x] Tryz.func26 Tryz.ntmps26 h ?_
 refine TTa 0 ⟨[(0,VP g),(1,VP o),(2,V8 f),(3,V64 x),(8,.p 0 0)],[(0,edB 0 0)]⟩ ?_
 refine TT.seq (TTE 1 false [3] 10 ?_)
 refine RVc 3 40 (fun ρ=>[.pointer (some ⟨g,0,none⟩),.pointer (some ⟨o,0,none⟩),.int .u8 f]) [] (fun ρ w1 F1 hF1 hpk1=>?_)
 refine (mayE hF1 hB hO hf).mono ?_
 rintro e1 w'1 ⟨rfl,hl1⟩
 refine ⟨V8 0,_,rfl,hl1,?_⟩
 refine RVz ⟨[(0,VP g),(1,VP o),(2,V8 f),(3,V64 x),(8,.p 0 0),(10,V8 0)],[(0,edB 0 0)]⟩ ?_
 refine TTa 10 ⟨[(0,VP g),(1,VP o),(2,V8 f),(3,V64 x),(8,.p 0 0),(10,V8 0),(16,VB false)],[(0,edB 0 0)]⟩ ?_
 refine TTu (TT.next ?_)
 refine TT.seq (TTE 3 false [1,5,6] 10 ?_)
 refine RVp 1 (.bool (decide (x<0))) (.bool false) (by rw [hx0]) ?_
 refine RVc 5 45 (fun ρ=>[.pointer (some ⟨g,0,none⟩)]) [] (fun ρ w2 F2 hF2 hpk2=>?_)
 refine (engVars hF2).mono ?_
 rintro e2 w'2 ⟨rfl,hb2⟩
 refine ⟨V64 (n:Int),_,rfl,.of_below hF2 (by rw [← hb2];exact Below.refl _ _),?_⟩
 refine RVp 6 (.bool (decide (x≥(n:Int)))) (.bool false) (by rw [hx1]) ?_
 refine RVz ⟨[(0,VP g),(1,VP o),(2,V8 f),(3,V64 x),(8,.p 0 0),(26,VB false)],[(0,edB 0 0)]⟩ ?_
 refine TTu (TT.next ?_)
 refine TTE 3 false [4,5,6] 10 ?_
 refine RVc 4 46 (fun ρ=>[.pointer (some ⟨o,0,none⟩),.int .i64 x]) [] (fun ρ w3 F3 hF3 hpk3=>?_)
 refine (engLevel hF3 hB hO hx).mono ?_
 rintro e3 w'3 ⟨rfl,hl3⟩
 refine ⟨V64 (lvN ls x:Int),_,rfl,hl3,?_⟩
 refine RV.bin 5 .shl 99 (.int .u16 1) (.int .i64 (lvN ls x:Int)) (.int .u16 ((1*2^lvN ls x:Nat):Int)) (by kernel_rfl) (by kernel_rfl) (by kernel_rfl) (fun x y w=>eqGuard_int _ _ _ _ _ _ _ _ w) (fun w=>shlN fits_u16 1 (lvN ls x) (by simp only [IntKind.bits];omega) (by omega) w) ?_
 refine RVc 6 41 (fun ρ=>[.pointer (some ⟨g,0,none⟩),.int .u8 f,.int .i64 0,.int .u16 ((1*2^lvN ls x:Nat):Int),.int .u16 0]) [] (fun ρ w4 F4 hF4 hpk4=>?_)
 refine (cubeE (1*2^lvN ls x) 0 hF4 hf (by omega) (Nat.two_pow_pos n) (Nat.and_zero _)).mono ?_
 rintro e4 w'4 ⟨t4,q4,code4,cs4,free4,rfl,hl4,hg4,(⟨rfl,hP4⟩|⟨rfl,rfl,rfl,hfl4⟩)⟩
 ·refine ⟨.v (.tuple #[Ed t4 q4,.int .u8 0]),_,rfl,hl4,?_⟩
  refine RVz ⟨[(8,.p 0 0),(9,V8 0)],[(0,edB t4 q4)]⟩ ?_
  refine TTt Tryz.results26 (.v (Ed t4 q4)) (V8 0) (fun _ _ h=>h) (fun ρ a w5 hs5=>?_)
  exact ⟨t4,q4,0,_,_,rfl,hs5.lands,hg4,.inl ⟨rfl,hP4⟩⟩
 ·refine ⟨.v (.tuple #[Ed 0 0,.int .u8 6]),_,rfl,hl4,?_⟩
  refine RVz ⟨[(8,.p 0 0),(9,V8 6)],[(0,edB 0 0)]⟩ ?_
  refine TTt Tryz.results26 (.v (Ed 0 0)) (V8 6) (fun _ _ h=>h) (fun ρ a w6 hs6=>?_)
  exact ⟨0,0,6,_,_,rfl,hs6.lands,hg4,.inr ⟨rfl,rfl,rfl,hfl4⟩⟩
def op3T (op:Nat) (m:Nat) (x y:BT):BT:=ap3 op x y (.zeros m)
def qT (kind:Int) (lv:Nat):Nat→Nat→BT→BT→BT
 | 0,_,.leaf a,.leaf b=> .leaf (a&&b)
 | m+1,l,.br a0 a1,.br b0 b1=>
  if lv.testBit l=true then
   if kind=2 then .br (qT kind lv m (l+1) a0 b0) (qT kind lv m (l+1) a0 b0)
   else if kind=3 then .br (qT kind lv m (l+1) a1 b1) (qT kind lv m (l+1) a1 b1)
   else .br (op3T (if kind=1 then 192 else 252) m (qT kind lv m (l+1) a0 b0) (qT kind lv m (l+1) a1 b1)) (op3T (if kind=1 then 192 else 252) m (qT kind lv m (l+1) a0 b0) (qT kind lv m (l+1) a1 b1))
  else .br (qT kind lv m (l+1) a0 b0) (qT kind lv m (l+1) a1 b1)
 | _,_,_,_=> .leaf false
def famT (till:Nat):Nat→Int→Nat→BT→BT→BT
 | 0,kind,_,.leaf a,.leaf b=> .leaf (a&&(b||decide (4≤kind)))
 | m+1,kind,l,.br a0 a1,.br b0 b1=>
  if kind=0 then .br (famT till m 0 (l+1) a0 b0) (op3T 252 m (op3T 252 m (famT till m 0 (l+1) a1 b1) (famT till m 0 (l+1) a0 b1)) (famT till m 0 (l+1) a1 b0))
  else if kind=1 then .br (op3T 252 m (op3T 252 m (famT till m 1 (l+1) a0 b0) (famT till m 1 (l+1) a0 b1)) (famT till m 1 (l+1) a1 b0)) (famT till m 1 (l+1) a1 b1)
  else if kind=2 then .br (famT till m 2 (l+1) a0 b0) (op3T 252 m (famT till m 2 (l+1) a1 b0) (famT till m 2 (l+1) a1 b1))
  else if kind=3 then .br (op3T 252 m (famT till m 3 (l+1) a0 b0) (famT till m 3 (l+1) a0 b1)) (famT till m 3 (l+1) a1 b1)
  else if kind=4 then .br (op3T 48 m (famT till m 4 (l+1) a0 (.zeros m)) (famT till m 3 (l+1) (famT till m 4 (l+1) a0 (.zeros m)) (famT till m 4 (l+1) a1 (.zeros m)))) (famT till m 4 (l+1) a1 (.zeros m))
  else if kind=5 then .br (famT till m 5 (l+1) a0 (.zeros m)) (op3T 48 m (famT till m 5 (l+1) a1 (.zeros m)) (famT till m 2 (l+1) (famT till m 5 (l+1) a1 (.zeros m)) (famT till m 5 (l+1) a0 (.zeros m))))
  else if l=till then .br (op3T 240 m a1 a1) (op3T 240 m a0 a0)
  else .br (famT till m kind (l+1) a0 (.zeros m)) (famT till m kind (l+1) a1 (.zeros m))
 | _,_,_,_,_=> .leaf false
def AnsQ (n:Nat) (cs:List (Option Rec)) (j:QJ) (v:Edg):Prop:=
 ∃(m:Nat) (x y:BT),x.Dep m∧y.Dep m∧j.l+m=n∧0≤j.l∧(1≤j.f∧j.f≤5)∧(0≤j.kind∧j.kind≤3)∧IsE cs j.f n j.a j.l x∧IsE cs j.f n j.b j.l y∧IsE cs j.f n v j.l (qT j.kind j.levels.toNat m j.l.toNat x y)
def AnsF (n:Nat) (cs:List (Option Rec)) (j:FJ) (v:Edg):Prop:=
 ∃(m:Nat) (x y:BT),x.Dep m∧y.Dep m∧j.l+m=n∧0≤j.l∧(1≤j.f∧j.f≤5)∧(0≤j.kind∧j.kind≤6)∧IsE cs j.f n j.a j.l x∧IsE cs j.f n j.b j.l y∧IsE cs j.f n v j.l (famT j.till.toNat m j.kind j.l.toNat x y)
theorem AnsQ.ext {n:Nat} {cs cs':List (Option Rec)} {j:QJ} {v:Edg} (h:AnsQ n cs j v) (k:Ext cs cs'):AnsQ n cs' j v:=by
 obtain ⟨m,x,y,h1,h2,h3,h4,h5,h6,h7,h8,h9⟩:=h
 exact ⟨m,x,y,h1,h2,h3,h4,h5,h6,h7.ext k,h8.ext k,h9.ext k⟩
theorem AnsF.ext {n:Nat} {cs cs':List (Option Rec)} {j:FJ} {v:Edg} (h:AnsF n cs j v) (k:Ext cs cs'):AnsF n cs' j v:=by
 obtain ⟨m,x,y,h1,h2,h3,h4,h5,h6,h7,h8,h9⟩:=h
 exact ⟨m,x,y,h1,h2,h3,h4,h5,h6,h7.ext k,h8.ext k,h9.ext k⟩
theorem caR_imp {J:Type} {tC tE:TypeId} {s:Nat} {enc:J→List Value} {c ek:Nat} {P P':J→Edg→Prop} {W:World} {F:List Nat} (hP:∀j v,P j v→P' j v) (h:(caR tC tE s enc c ek P).at_ W F):(caR tC tE s enc c ek P').at_ W F:=by
 obtain ⟨ep,e0,b,n,h1,h2,es,e1,e2,e3,e4,e5,e6,e7⟩:=h
 exact ⟨ep,e0,b,n,h1,h2,es,e1,e2,e3,e4,e5,e6,fun e he=>⟨(e7 e he).1,fun h=>hP _ _ ((e7 e he).2 h)⟩⟩
abbrev tCQ:TypeId:=138
abbrev tEQ:TypeId:=264
abbrev tCF:TypeId:=141
abbrev tEF:TypeId:=266
def quB (c n ek:Nat):Bk:=⟨fun cs=>caR tCQ tEQ 8 QJ.cells c ek (AnsQ n cs),fun he h=>caR_imp (fun _ _ h=>h.ext he) h⟩
def faB (c n ek:Nat):Bk:=⟨fun cs=>caR tCF tEF 8 FJ.cells c ek (AnsF n cs),fun he h=>caR_imp (fun _ _ h=>h.ext he) h⟩
structure Mg where
 ops:Nat
 qu:Nat
 gu:Nat
 st:Nat
 od:Nat
 live:Nat→Bool
 root:Nat→Int×Edg
abbrev vP (g:Nat):Value:= .pointer (some ⟨g,0,none⟩)
def mgCell (M:Mg) (i:Nat):Value:=
 if i=0 then vP M.ops else if i=1 then vP M.qu else if i=2 then vP M.gu else if i=3 then vP M.st else if i=4 then vP M.od
 else if i<262 then .bool (M.live (i-5))
 else if (i-262)%3=0 then .int .u8 (M.root ((i-262)/3)).1
 else if (i-262)%3=1 then .int .u8 (M.root ((i-262)/3)).2.tag else .int .u32 (M.root ((i-262)/3)).2.pos
def mgCells (M:Mg):Array Value:=(Array.range 1033).map (mgCell M)
theorem mgCells_get (M:Mg) (i:Nat):(mgCells M)[i]? =if i<1033 then some (mgCell M i) else none:=by
 unfold mgCells
 rw [Array.getElem?_map,Array.getElem?_range]
 split<;>rfl
theorem mgCells_size (M:Mg):(mgCells M).size=1033:=by simp [mgCells]
abbrev tMg:TypeId:=53
def mgR (m:Nat) (M:Mg):Res:=blkR m tMg (mgCells M)
def Mg.setLive (M:Mg) (h:Nat) (b:Bool):Mg:={M with live:=fun i=>if i=h then b else M.live i}
def Mg.setRoot (M:Mg) (h:Nat) (r:Int×Edg):Mg:={M with root:=fun i=>if i=h then r else M.root i}
theorem mgCells_live (M:Mg) (h:Nat) (b:Bool) (hh:h<257):(mgCells M).setIfInBounds (5+h) (.bool b)=mgCells (M.setLive h b):=by
 apply Array.ext_getElem?
 intro i
 rw [Array.getElem?_setIfInBounds,mgCells_size,mgCells_get,mgCells_get]
 by_cases e:5+h=i
 ·subst e
  rw [if_pos rfl,if_pos (by omega),if_pos (by omega)]
  unfold mgCell Mg.setLive
  simp only
  rw [if_neg (by omega),if_neg (by omega),if_neg (by omega),if_neg (by omega),if_neg (by omega),if_pos (by omega),if_pos (by omega)]
 ·rw [if_neg e]
  by_cases hi:i<1033
  ·rw [if_pos hi,if_pos hi]
   refine congrArg some ?_
   unfold mgCell Mg.setLive
   simp only
   by_cases h5:i<5
   ·have:i=0∨i=1∨i=2∨i=3∨i=4:=by omega
    rcases this with rfl|rfl|rfl|rfl|rfl<;>rfl
   ·have a0:¬i=0:=by omega
    have a1:¬i=1:=by omega
    have a2:¬i=2:=by omega
    have a3:¬i=3:=by omega
    have a4:¬i=4:=by omega
    have a5:¬i-5=h:=by omega
    simp only [a0,a1,a2,a3,a4,a5,if_false]
  ·rw [if_neg hi,if_neg hi]
theorem mgCells_root (M:Mg) (h:Nat) (r:Int×Edg) (hh:h<257):(((mgCells M).setIfInBounds (262+h*3) (.int .u8 r.1)).setIfInBounds (262+h*3+1) (.int .u8 r.2.tag)).setIfInBounds (262+h*3+2) (.int .u32 r.2.pos)=mgCells (M.setRoot h r):=by
 apply Array.ext_getElem?
 intro i
 rw [Array.getElem?_setIfInBounds,Array.getElem?_setIfInBounds,Array.getElem?_setIfInBounds,Array.size_setIfInBounds,Array.size_setIfInBounds,mgCells_size,mgCells_get,mgCells_get]
 by_cases hi:i<1033
 ·rw [if_pos hi,if_pos hi]
  by_cases e2:262+h*3+2=i
  ·rw [if_pos e2,if_pos (by omega)]
   unfold mgCell Mg.setRoot
   simp only
   rw [if_neg (by omega),if_neg (by omega),if_neg (by omega),if_neg (by omega),if_neg (by omega),if_neg (by omega),if_neg (by omega),if_neg (by omega),if_pos (by omega)]
  ·rw [if_neg e2]
   by_cases e1:262+h*3+1=i
   ·rw [if_pos e1,if_pos (by omega)]
    unfold mgCell Mg.setRoot
    simp only
    rw [if_neg (by omega),if_neg (by omega),if_neg (by omega),if_neg (by omega),if_neg (by omega),if_neg (by omega),if_neg (by omega),if_pos (by omega),if_pos (by omega)]
   ·rw [if_neg e1]
    by_cases e0:262+h*3=i
    ·rw [if_pos e0,if_pos (by omega)]
     unfold mgCell Mg.setRoot
     simp only
     rw [if_neg (by omega),if_neg (by omega),if_neg (by omega),if_neg (by omega),if_neg (by omega),if_neg (by omega),if_pos (by omega),if_pos (by omega)]
    ·rw [if_neg e0]
     refine congrArg some ?_
     unfold mgCell Mg.setRoot
     simp only
     by_cases h6:i<5
     ·have:i=0∨i=1∨i=2∨i=3∨i=4:=by omega
      rcases this with rfl|rfl|rfl|rfl|rfl<;>rfl
     ·have a0:¬i=0:=by omega
      have a1:¬i=1:=by omega
      have a2:¬i=2:=by omega
      have a3:¬i=3:=by omega
      have a4:¬i=4:=by omega
      by_cases h5:i<262
      ·simp only [a0,a1,a2,a3,a4,h5,if_false,if_true]
      ·have a5:¬(i-262)/3=h:=by omega
       simp only [a0,a1,a2,a3,a4,h5,a5,if_false]
 ·rw [if_neg hi,if_neg hi,if_neg (by omega),if_neg (by omega),if_neg (by omega)]
section
variable {m h:Nat} {M:Mg} {R:Res} {F:List Nat} {w:World}
theorem mg_blk (hF:(sepR (mgR m M) R).at_ w F):Blk w m tMg (mgCells M):=by
 obtain ⟨F1,F2,_,h1,_⟩:=hF
 exact h1.2
theorem mg_cell (hB:Blk w m tMg (mgCells M)) {i:Nat} (hi:i<1033):w.cell? ⟨m,i,none⟩=some (mgCell M i):=by
 rw [hB.cell,mgCells_get,if_pos hi]
theorem mg_ldP {t:TypeId} (i:Nat) (hi:i<1033) (v:Value) (hv:mgCell M i=v) (ht:(Tryz.prog.underlying t).map TypeDesc.isRow=some false) (hB:Blk w m tMg (mgCells M)):(Instr.loadAt t (.pointer (some ⟨m,i,none⟩))).run Tryz.prog w = .ok v w:=by
 rw [← hv]
 exact run_ld ht (mg_cell hB hi)
theorem mg_ixL {k:IntKind} (hh:h<257):(Instr.indexAt 45 (.pointer (some ⟨m,5,none⟩)) (.int k (h:Int))).run Tryz.prog w = .ok (.pointer (some ⟨m,5+h,none⟩)) w:=by
 have:=run_ix (P:=Tryz.prog) (w:=w) (t:=45) (e:=4) (n:=257) (s:=1) (k:=k) (b:=m) (off:=5) h (by kernel_rfl) (by kernel_rfl) hh
 rw [Nat.mul_one] at this
 exact this
theorem mg_ixR {k:IntKind} (hh:h<257):(Instr.indexAt 51 (.pointer (some ⟨m,262,none⟩)) (.int k (h:Int))).run Tryz.prog w = .ok (.pointer (some ⟨m,262+h*3,none⟩)) w:=
 run_ix (P:=Tryz.prog) (w:=w) (t:=51) (e:=50) (n:=257) (s:=3) (k:=k) (b:=m) (off:=262) h (by kernel_rfl) (by kernel_rfl) hh
theorem mg_ldL (hh:h<257) (hB:Blk w m tMg (mgCells M)):(Instr.loadAt 4 (.pointer (some ⟨m,5+h,none⟩))).run Tryz.prog w = .ok (.bool (M.live h)) w:=
 mg_ldP (5+h) (by omega) _ (by
  unfold mgCell
  rw [if_neg (by omega),if_neg (by omega),if_neg (by omega),if_neg (by omega),if_neg (by omega),if_pos (by omega),show 5+h-5=h by omega]) (by kernel_rfl) hB
theorem mg_ldF (hh:h<257) (hB:Blk w m tMg (mgCells M)):(Instr.loadAt 23 (.pointer (some ⟨m,262+h*3,none⟩))).run Tryz.prog w = .ok (.int .u8 (M.root h).1) w:=
 mg_ldP (262+h*3) (by omega) _ (by
  unfold mgCell
  rw [if_neg (by omega),if_neg (by omega),if_neg (by omega),if_neg (by omega),if_neg (by omega),if_neg (by omega),if_pos (by omega),show (262+h*3-262)/3=h by omega]) (by kernel_rfl) hB
theorem mg_ldE (hh:h<257) (hB:Blk w m tMg (mgCells M)):(Instr.loadAt 48 (.pointer (some ⟨m,262+h*3+1,none⟩))).run Tryz.prog w = .ok (Ed (M.root h).2.tag (M.root h).2.pos) w:=by
 refine run_ldR (vs:=[.int .u8 (M.root h).2.tag,.int .u32 (M.root h).2.pos]) (fun j v hj=>?_) (by kernel_rfl) (by kernel_rfl)
 have hj2:j<2:=(List.getElem?_eq_some_iff.1 hj).1
 rw [mg_cell hB (by omega)]
 unfold mgCell
 match j,hj2 with
 | 0,_=>
  rw [if_neg (by omega),if_neg (by omega),if_neg (by omega),if_neg (by omega),if_neg (by omega),if_neg (by omega),if_neg (by omega),if_pos (by omega),show (262+h*3+1+0-262)/3=h by omega]
  exact hj
 | 1,_=>
  rw [if_neg (by omega),if_neg (by omega),if_neg (by omega),if_neg (by omega),if_neg (by omega),if_neg (by omega),if_neg (by omega),if_neg (by omega),show (262+h*3+1+1-262)/3=h by omega]
  exact hj
theorem mg_stored {vs:List Value} {off:Nat} {M':Mg} (hF:(sepR (mgR m M) R).at_ w F) (hB:Blk (w.setCells m off vs) m tMg (mgCells M')):Lands (sepR (mgR m M') R) F w (w.setCells m off vs):=by
 obtain ⟨F1,F2,e0,⟨rfl,_⟩,hR,hd⟩:=hF
 have hch:Chg [m] w (w.setCells m off vs):=Chg.setCells (Chg.refl _ _) (.inl (by simp)) _ _
 refine ⟨F,⟨[m],F2,e0,⟨rfl,hB⟩,R.chg hR hch (fun k hk hm=>?_),hd⟩,fun y hy=> .inl hy,hch.mono fun x hx=>?_⟩
 ·rw [List.mem_singleton] at hm
  subst hm
  exact hd k (by simp) hk
 ·rw [List.mem_singleton] at hx
  subst hx
  exact .inl ((e0 x).2 (.inl (by simp)))
theorem mg_stL (hh:h<257) (b:Bool) (hF:(sepR (mgR m M) R).at_ w F):(do Instr.storeAt 4 (.pointer (some ⟨m,5+h,none⟩)) (.bool b);pure undef:Sem Value).run Tryz.prog w = .ok undef (w.setCells m (5+h) [.bool b])∧Lands (sepR (mgR m (M.setLive h b)) R) F w (w.setCells m (5+h) [.bool b]):=by
 have hB:=mg_blk hF
 refine ⟨run_st (v:= .bool b) (by kernel_rfl) (fun j hj=>?_) (fun j hj=>hB.frozen _) (by simp [Value.cells,Value.oneCell']),mg_stored hF ?_⟩
 ·have:j=0:=by simp [Value.cells] at hj;exact hj
  subst this
  rw [mg_cell hB (by omega)]
  rfl
 ·have:=hB.set_ (5+h) (.bool b)
  rw [mgCells_live M h b hh] at this
  exact this
theorem mg_stR (hh:h<257) (r:Int×Edg) (hF:(sepR (mgR m M) R).at_ w F):(do Instr.storeAt 50 (.pointer (some ⟨m,262+h*3,none⟩)) (.agg #[.int .u8 r.1,.int .u8 r.2.tag,.int .u32 r.2.pos]);pure undef:Sem Value).run Tryz.prog w = .ok undef (w.setCells m (262+h*3) [.int .u8 r.1,.int .u8 r.2.tag,.int .u32 r.2.pos])∧Lands (sepR (mgR m (M.setRoot h r)) R) F w (w.setCells m (262+h*3) [.int .u8 r.1,.int .u8 r.2.tag,.int .u32 r.2.pos]):=by
 have hB:=mg_blk hF
 refine ⟨run_st (v:= .agg #[.int .u8 r.1,.int .u8 r.2.tag,.int .u32 r.2.pos]) (by kernel_rfl) (fun j hj=>?_) (fun j hj=>hB.frozen _) (by simp [Value.cells,Value.oneCell']),mg_stored hF ?_⟩
 ·have:j<3:=by simpa [Value.cells] using hj
  rw [mg_cell hB (by omega)]
  rfl
 ·have:=((hB.set_ (262+h*3) (.int .u8 r.1)).set_ (262+h*3+1) (.int .u8 r.2.tag)).set_ (262+h*3+2) (.int .u32 r.2.pos)
  rw [mgCells_root M h r hh] at this
  exact this
end
end
end Go.Proofs.YtnlmlehcpngcgaaGreat
