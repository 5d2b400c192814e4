/- Contracts: manager's Const, Var, Copy, Apply, Drop, Nodes. Contracts: New of the engines, and of a manager. -/
import Derived.Test.YtnlmlehcpngcgaaGreatQbj
import Derived.Test.YtnlmlehcpngcgaaGreatQbx
namespace Go.Proofs.YtnlmlehcpngcgaaGreat
set_option linter.unusedSimpArgs false
set_option linter.unusedVariables false
section
open Go.RowKit Go.Sort
def MOut (c:Cfg) (ek b:Nat) (H:Hs) (k:Nat) (fu:Prop) (v:Int×BT) (F:List Nat) (w:World) (e:Ending) (w':World):Prop:=
 (∃ a:Nat,Least H a∧e = .returned (.tuple #[.int .i64 (a:Int),.int .u8 0])∧Lands (mgF c (ek+2) (b+k) (H.put a (some v))) F w w')∨(e = .returned (.tuple #[.int .i64 0,.int .u8 6])∧fu∧Tight c H k b∧Lands (mgF c (ek+2) (b+k) H) F w w')
section
variable {n:Nat} {M:Mg} {H:Hs} {cs:List (Option Rec)} {a0 a1:Nat} {f g:Int} {t u:BT}
theorem HdOk.hasN (h:HdOk n M H cs) (ha1:1≤a0) (ha:a0≤256) (hHa:H a0=some (f,t)):hasM M.live (a0:Int)=true:=by
 unfold hasM
 rw [decide_eq_true (by omega),Bool.true_and,Int.toNat_natCast,h.live a0 ha,hHa]
 rfl
theorem HdOk.same_bad {x:Int} {xs:List Int} (h:HdOk n M H cs) (hm:x∈xs) (hx:¬(1≤x∧x≤256∧H x.toNat≠none)):sameM M xs=(0,5):=by
 unfold sameM
 rw [if_neg]
 intro hall
 have h1:=hall x hm
 unfold hasM at h1
 simp only [Bool.and_eq_true,decide_eq_true_eq] at h1
 rw [h.live _ (by omega),Option.isSome_iff_ne_none] at h1
 exact hx ⟨h1.1.1,h1.1.2,h1.2⟩
theorem HdOk.same_one (h:HdOk n M H cs) (ha1:1≤a0) (ha:a0≤256) (hHa:H a0=some (f,t)):sameM M [(a0:Int)]=(f,0):=by
 have hr:=(h.ed a0 f t ha hHa).1
 have h1:=h.hasN ha1 ha hHa
 unfold sameM
 rw [if_pos (by simpa using h1),if_pos (by simp [foM])]
 simp [foM,hr]
theorem HdOk.same_two (h:HdOk n M H cs) (ha1:1≤a0) (ha:a0≤256) (hHa:H a0=some (f,t)) (hb1:1≤a1) (hb:a1≤256) (hHb:H a1=some (f,u)):sameM M [(a0:Int),(a1:Int)]=(f,0):=by
 have hr:=(h.ed a0 f t ha hHa).1
 have hs:=(h.ed a1 f u hb hHb).1
 have h1:=h.hasN ha1 ha hHa
 have h2:=h.hasN hb1 hb hHb
 unfold sameM
 rw [if_pos (by simp [h1,h2]),if_pos (by simp [foM,hr,hs])]
 simp [foM,hs]
theorem HdOk.drop {a:Nat} (h:HdOk n M H cs):HdOk n ((M.setLive a false).setRoot a (0,⟨0,0⟩)) (H.put a none) cs:=by
 refine ⟨fun k hk=>?_,?_,fun k f' t' hk hH=>?_⟩
 ·show (if k=a then false else M.live k)=_
  unfold Hs.put
  split
  ·rfl
  ·exact h.live k hk
 ·unfold Hs.put
  split
  ·rfl
  ·exact h.zero
 ·unfold Hs.put at hH
  show (if k=a then ((0:Int),(⟨0,0⟩:Edg)) else M.root k).1=f'∧_∧_∧IsE cs f' n (if k=a then ((0:Int),(⟨0,0⟩:Edg)) else M.root k).2 0 t'
  by_cases ek:k=a
  ·rw [if_pos ek] at hH
   cases hH
  ·rw [if_neg ek] at hH ⊢
   exact h.ed k f' t' hk hH
end
section
variable {c:Cfg} {d:MgD} {ek b k:Nat} {M:Mg} {H:Hs} {cs:List (Option Rec)} {free:List Int} {w:World} {F:List Nat} {X:Res} {A:Option Addr} {n n':Nat} {xs:List Int} {f code:Int} {a:Nat}
theorem roomL_full (h:(sepR (slI A n n' xs) (mgT c d ek M cs free)).at_ w F) (hH:HdOk c.n M H cs) (hfull:∀k,1≤k→k≤256→H k≠none):Calls Tryz.prog 21 #[.pointer (some ⟨c.m,0,none⟩),.slice A n n'] w (Says (.tuple #[.int .u8 0,.int .u8 9]) (mgT c d ek M cs free) F w):=
 (mgRoom_full (fun k h1 h2=>by
  rw [hH.live k h2,Option.isSome_iff_ne_none]
  exact hfull k h1 h2) h (fun h=>(mgT_blks h).2.2.2)).mono fun e w' ⟨e1,e2⟩=>⟨e1,e2.drop⟩
theorem roomL_some (h:(sepR (slI A n n' xs) (mgT c d ek M cs free)).at_ w F) (hH:HdOk c.n M H cs) (hfr:∃a,1≤a∧a≤256∧H a=none) (hs:sameM M xs=(f,code)):Calls Tryz.prog 21 #[.pointer (some ⟨c.m,0,none⟩),.slice A n n'] w (Says (.tuple #[.int .u8 f,.int .u8 code]) (mgT c d ek M cs free) F w):=by
 refine (mgRoom_some (fun hall=>?_) h (fun h=>(mgT_blks h).2.2.2)).mono fun e w' ⟨e1,e2⟩=>⟨by rw [e1,hs],e2.drop⟩
 obtain ⟨a,a1,a2,a3⟩:=hfr
 have:=hall a a1 a2
 rw [hH.live a a2,a3] at this
 cases this
theorem sameL (h:(sepR (slI A n n' xs) (mgT c d ek M cs free)).at_ w F) (hs:sameM M xs=(f,code)):Calls Tryz.prog 24 #[.pointer (some ⟨c.m,0,none⟩),.slice A n n'] w (Says (.tuple #[.int .u8 f,.int .u8 code]) (mgT c d ek M cs free) F w):=
 (mgSame h (fun h=>(mgT_blks h).2.2.2)).mono fun e w' ⟨e1,e2⟩=>⟨by rw [e1,hs],e2.drop⟩
theorem mgT_stL (ha:a<257) (x:Bool) (h:(mgT c d ek M cs free).at_ w F):(do Instr.storeAt 4 (.pointer (some ⟨c.m,5+a,none⟩)) (.bool x);pure undef:Sem Value).run Tryz.prog w = .ok undef (w.setCells c.m (5+a) [.bool x])∧Lands (mgT c d ek (M.setLive a x) cs free) F w (w.setCells c.m (5+a) [.bool x]):=by
 obtain ⟨h1,h2⟩:=mg_stL ha x (sepR_swap h)
 exact ⟨h1,h2.imp fun _ h=>sepR_swap h⟩
theorem mgT_stR (ha:a<257) (r:Int×Edg) (h:(mgT c d ek M cs free).at_ w F):(do Instr.storeAt 50 (.pointer (some ⟨c.m,262+a*3,none⟩)) (.agg #[.int .u8 r.1,.int .u8 r.2.tag,.int .u32 r.2.pos]);pure undef:Sem Value).run Tryz.prog w = .ok undef (w.setCells c.m (262+a*3) [.int .u8 r.1,.int .u8 r.2.tag,.int .u32 r.2.pos])∧Lands (mgT c d ek (M.setRoot a r) cs free) F w (w.setCells c.m (262+a*3) [.int .u8 r.1,.int .u8 r.2.tag,.int .u32 r.2.pos]):=by
 obtain ⟨h1,h2⟩:=mg_stR ha r (sepR_swap h)
 exact ⟨h1,h2.imp fun _ h=>sepR_swap h⟩
theorem mgT_ok (h:(mgT c d ek M cs free).at_ w F):StOk c.n c.room cs free∧FreeOk cs free∧Uniq cs:=by
 obtain ⟨Z,h⟩:=sepR_fst h
 exact engR_ok h
theorem mgT_room (h:(mgT c d ek M cs free).at_ w F):cntC cs≤c.room:=by
 have:=(mgT_ok h).1.cnt
 have:=(mgT_ok h).1.len
 omega
theorem mgT_len (h:(mgT c d ek M cs free).at_ w F):Calls Tryz.prog 27 #[.pointer (some ⟨M.st,0,none⟩)] w fun e w'=>e = .returned (.int .i64 (cntC cs:Int))∧w=w':=by
 obtain ⟨F1,F2,_,h1,_⟩:=mgT_open h
 exact storeLen_any F1 M.st c.n c.room cs free w h1.1
set_option maxRecDepth 100000 in
set_option maxHeartbeats 4000000 in
theorem mConst_full {f:Int} {x:Bool} (hfull:∀k,1≤k→k≤256→H k≠none) (h:(mgF c ek b H).at_ w F) :
  Calls Tryz.prog 6 #[vP c.m,.int .u8 f,.bool x] w (Says (.tuple #[.int .i64 0,.int .u8 9]) (mgF c ek b H) F w):=by
 obtain ⟨d,M,cs,free,hH,hb,h⟩:=h
 refine TTg [VP c.m,V8 f,VB x] Tryz.func6 Tryz.ntmps6 h ?_
 refine TTa 0 ⟨[(3,.p 0 0),(4,.p 1 0),(5,.p 2 0)],[(0,⟨24,false,[VP c.m]⟩),(1,⟨23,false,[V8 f]⟩),(2,⟨4,false,[VB x]⟩)]⟩ ?_
 refine TT.give 0 (b:=⟨24,false,[VP c.m]⟩) (cs:= #[.pointer (some ⟨c.m,0,none⟩)]) (fun b0=>⟨[(3,VP b0),(4,.p 1 0),(5,.p 2 0)],[(1,⟨23,false,[V8 f]⟩),(2,⟨4,false,[VB x]⟩)]⟩) (by kernel_rfl) rfl (fun _=>rfl) (fun _=>rfl) (fun b0=>?_)
 refine TT.give 1 (b:=⟨23,false,[V8 f]⟩) (cs:= #[.int .u8 f]) (fun b1=>⟨[(3,VP b0),(4,VP b1),(5,.p 2 0)],[(2,⟨4,false,[VB x]⟩)]⟩) (by kernel_rfl) rfl (fun _=>rfl) (fun _=>rfl) (fun b1=>?_)
 refine TT.give 2 (b:=⟨4,false,[VB x]⟩) (cs:= #[.bool x]) (fun b2=>⟨[(3,VP b0),(4,VP b1),(5,VP b2)],[]⟩) (by kernel_rfl) rfl (fun _=>rfl) (fun _=>rfl) (fun b2=>?_)
 refine TT.res (R':=sepR (sepR (blkR b2 4 #[.bool x]) (sepR (blkR b1 23 #[.int .u8 f]) (blkR b0 24 #[vP c.m]))) (mgT c d ek M cs free)) (fun W F h=>sepR_unassoc (sepR_imp h (fun _ h=>h) (fun _ h=>sepR_unassoc (sepR_imp h (fun _ h=>h) (fun _ h=>h))))) ?_
 refine TTe 3 [0,1,3] ?_
 refine RVd 0 (.load 24 (.v (.pointer (some ⟨b0,0,none⟩)))) (VP c.m) (fun ρ w F hF=>run_ld (by kernel_rfl) (((sepR_snd (sepR_snd (sepR_fst hF).choose_spec).choose_spec).choose_spec).2.cell 0)) ?_
 refine RVd 1 (.load 23 (.v (.pointer (some ⟨b1,0,none⟩)))) (V8 f) (fun ρ w F hF=>run_ld (by kernel_rfl) (((sepR_fst (sepR_snd (sepR_fst hF).choose_spec).choose_spec).choose_spec).2.cell 0)) ?_
 refine RVc 3 18 (fun ρ=>[.pointer (some ⟨c.m,0,none⟩),.int .u8 f,.func (.func 19) #[] #[.pointer (some ⟨b0,0,none⟩),.pointer (some ⟨b1,0,none⟩),.pointer (some ⟨b2,0,none⟩)]]) [] (fun ρ w1 F1 hF1 hpk1=>?_)
 refine (freshM_full hF1 hH hfull).mono ?_
 rintro e1 w'1 ⟨rfl,hl1⟩
 refine ⟨.v (.tuple #[.int .i64 0,.int .u8 9]),_,rfl,hl1,?_⟩
 refine RVz ⟨[(6,V64 0),(7,V8 9)],[]⟩ ?_
 refine TTt Tryz.results6 (V64 0) (V8 9) (fun _ _ h=>h) (fun ρ a w2 hs2=>?_)
 exact ⟨rfl,hs2.lands.drop.imp (fun _ h=>mgF_of h hH hb)⟩
set_option maxRecDepth 100000 in
set_option maxHeartbeats 4000000 in
theorem mConst_false {f:Int} (hO:OrdOk c.n c.ps c.ls) (hek:ek<2^61) (hf:1≤f∧f≤5) (hfr:∃a,1≤a∧a≤256∧H a=none) (h:(mgF c ek b H).at_ w F) :
  Calls Tryz.prog 6 #[vP c.m,.int .u8 f,.bool false] w (MOut c ek b H (0) False (f,.zeros c.n) F w):=by
 obtain ⟨d,M,cs,free,hH,hb,h⟩:=h
 refine TTg [VP c.m,V8 f,VB false] Tryz.func6 Tryz.ntmps6 h ?_
 refine TTa 0 ⟨[(3,.p 0 0),(4,.p 1 0),(5,.p 2 0)],[(0,⟨24,false,[VP c.m]⟩),(1,⟨23,false,[V8 f]⟩),(2,⟨4,false,[VB false]⟩)]⟩ ?_
 refine TT.give 0 (b:=⟨24,false,[VP c.m]⟩) (cs:= #[.pointer (some ⟨c.m,0,none⟩)]) (fun b0=>⟨[(3,VP b0),(4,.p 1 0),(5,.p 2 0)],[(1,⟨23,false,[V8 f]⟩),(2,⟨4,false,[VB false]⟩)]⟩) (by kernel_rfl) rfl (fun _=>rfl) (fun _=>rfl) (fun b0=>?_)
 refine TT.give 1 (b:=⟨23,false,[V8 f]⟩) (cs:= #[.int .u8 f]) (fun b1=>⟨[(3,VP b0),(4,VP b1),(5,.p 2 0)],[(2,⟨4,false,[VB false]⟩)]⟩) (by kernel_rfl) rfl (fun _=>rfl) (fun _=>rfl) (fun b1=>?_)
 refine TT.give 2 (b:=⟨4,false,[VB false]⟩) (cs:= #[.bool false]) (fun b2=>⟨[(3,VP b0),(4,VP b1),(5,VP b2)],[]⟩) (by kernel_rfl) rfl (fun _=>rfl) (fun _=>rfl) (fun b2=>?_)
 refine TT.res (R':=sepR (sepR (blkR b2 4 #[.bool false]) (sepR (blkR b1 23 #[.int .u8 f]) (blkR b0 24 #[vP c.m]))) (mgT c d ek M cs free)) (fun W F h=>sepR_unassoc (sepR_imp h (fun _ h=>h) (fun _ h=>sepR_unassoc (sepR_imp h (fun _ h=>h) (fun _ h=>h))))) ?_
 refine TTe 3 [0,1,3] ?_
 refine RVd 0 (.load 24 (.v (.pointer (some ⟨b0,0,none⟩)))) (VP c.m) (fun ρ w F hF=>run_ld (by kernel_rfl) (((sepR_snd (sepR_snd (sepR_fst hF).choose_spec).choose_spec).choose_spec).2.cell 0)) ?_
 refine RVd 1 (.load 23 (.v (.pointer (some ⟨b1,0,none⟩)))) (V8 f) (fun ρ w F hF=>run_ld (by kernel_rfl) (((sepR_fst (sepR_snd (sepR_fst hF).choose_spec).choose_spec).choose_spec).2.cell 0)) ?_
 refine RVc 3 18 (fun ρ=>[.pointer (some ⟨c.m,0,none⟩),.int .u8 f,.func (.func 19) #[] #[.pointer (some ⟨b0,0,none⟩),.pointer (some ⟨b1,0,none⟩),.pointer (some ⟨b2,0,none⟩)]]) [] (fun ρ w1 F1 hF1 hpk1=>?_)
 refine (freshM_ok hF1 hH (workConst_false hO hf) hb hek hf (BT.zeros_dep c.n) hfr).mono ?_
 rintro e1 w'1 (⟨j0,hle,rfl,hl1⟩|⟨rfl,hfu,hti,hl1⟩)
 ·refine ⟨.v (.tuple #[.int .i64 (j0:Int),.int .u8 0]),_,rfl,hl1,?_⟩
  refine RVz ⟨[(6,V64 (j0:Int)),(7,V8 0)],[]⟩ ?_
  refine TTt Tryz.results6 (V64 (j0:Int)) (V8 0) (fun _ _ h=>h) (fun ρ a w2 hs2=>?_)
  exact .inl ⟨j0,hle,rfl,hs2.lands.drop⟩
 ·refine ⟨.v (.tuple #[.int .i64 0,.int .u8 6]),_,rfl,hl1,?_⟩
  refine RVz ⟨[(6,V64 0),(7,V8 6)],[]⟩ ?_
  refine TTt Tryz.results6 (V64 0) (V8 6) (fun _ _ h=>h) (fun ρ a w3 hs3=>?_)
  exact .inr ⟨rfl,hfu,hti,hs3.lands.drop⟩
set_option maxRecDepth 100000 in
set_option maxHeartbeats 4000000 in
theorem mVar_ok {f x:Int} (hx:0≤x∧x<c.n) (hO:OrdOk c.n c.ps c.ls) (hek:ek<2^61) (hf:1≤f∧f≤5) (hfr:∃a,1≤a∧a≤256∧H a=none) (h:(mgF c ek b H).at_ w F) :
  Calls Tryz.prog 9 #[vP c.m,.int .u8 f,.int .i64 x] w (MOut c ek b H (c.n) True (f,cubeT (1*2^lvN c.ls x) 0 0 c.n) F w):=by
 obtain ⟨d,M,cs,free,hH,hb,h⟩:=h
 refine TTg [VP c.m,V8 f,V64 x] Tryz.func9 Tryz.ntmps9 h ?_
 refine TTa 0 ⟨[(3,.p 0 0),(4,.p 1 0),(5,.p 2 0)],[(0,⟨24,false,[VP c.m]⟩),(1,⟨23,false,[V8 f]⟩),(2,⟨3,false,[V64 x]⟩)]⟩ ?_
 refine TT.give 0 (b:=⟨24,false,[VP c.m]⟩) (cs:= #[.pointer (some ⟨c.m,0,none⟩)]) (fun b0=>⟨[(3,VP b0),(4,.p 1 0),(5,.p 2 0)],[(1,⟨23,false,[V8 f]⟩),(2,⟨3,false,[V64 x]⟩)]⟩) (by kernel_rfl) rfl (fun _=>rfl) (fun _=>rfl) (fun b0=>?_)
 refine TT.give 1 (b:=⟨23,false,[V8 f]⟩) (cs:= #[.int .u8 f]) (fun b1=>⟨[(3,VP b0),(4,VP b1),(5,.p 2 0)],[(2,⟨3,false,[V64 x]⟩)]⟩) (by kernel_rfl) rfl (fun _=>rfl) (fun _=>rfl) (fun b1=>?_)
 refine TT.give 2 (b:=⟨3,false,[V64 x]⟩) (cs:= #[.int .i64 x]) (fun b2=>⟨[(3,VP b0),(4,VP b1),(5,VP b2)],[]⟩) (by kernel_rfl) rfl (fun _=>rfl) (fun _=>rfl) (fun b2=>?_)
 refine TT.res (R':=sepR (sepR (blkR b2 3 #[.int .i64 x]) (sepR (blkR b1 23 #[.int .u8 f]) (blkR b0 24 #[vP c.m]))) (mgT c d ek M cs free)) (fun W F h=>sepR_unassoc (sepR_imp h (fun _ h=>h) (fun _ h=>sepR_unassoc (sepR_imp h (fun _ h=>h) (fun _ h=>h))))) ?_
 refine TTe 3 [0,1,3] ?_
 refine RVd 0 (.load 24 (.v (.pointer (some ⟨b0,0,none⟩)))) (VP c.m) (fun ρ w F hF=>run_ld (by kernel_rfl) (((sepR_snd (sepR_snd (sepR_fst hF).choose_spec).choose_spec).choose_spec).2.cell 0)) ?_
 refine RVd 1 (.load 23 (.v (.pointer (some ⟨b1,0,none⟩)))) (V8 f) (fun ρ w F hF=>run_ld (by kernel_rfl) (((sepR_fst (sepR_snd (sepR_fst hF).choose_spec).choose_spec).choose_spec).2.cell 0)) ?_
 refine RVc 3 18 (fun ρ=>[.pointer (some ⟨c.m,0,none⟩),.int .u8 f,.func (.func 25) #[] #[.pointer (some ⟨b0,0,none⟩),.pointer (some ⟨b1,0,none⟩),.pointer (some ⟨b2,0,none⟩)]]) [] (fun ρ w1 F1 hF1 hpk1=>?_)
 refine (freshM_ok hF1 hH (workVar hO hf hx) hb hek hf (cubeT_dep _ 0 0 c.n) hfr).mono ?_
 rintro e1 w'1 (⟨j0,hle,rfl,hl1⟩|⟨rfl,hfu,hti,hl1⟩)
 ·refine ⟨.v (.tuple #[.int .i64 (j0:Int),.int .u8 0]),_,rfl,hl1,?_⟩
  refine RVz ⟨[(6,V64 (j0:Int)),(7,V8 0)],[]⟩ ?_
  refine TTt Tryz.results9 (V64 (j0:Int)) (V8 0) (fun _ _ h=>h) (fun ρ a w2 hs2=>?_)
  exact .inl ⟨j0,hle,rfl,hs2.lands.drop⟩
 ·refine ⟨.v (.tuple #[.int .i64 0,.int .u8 6]),_,rfl,hl1,?_⟩
  refine RVz ⟨[(6,V64 0),(7,V8 6)],[]⟩ ?_
  refine TTt Tryz.results9 (V64 0) (V8 6) (fun _ _ h=>h) (fun ρ a w3 hs3=>?_)
  exact .inr ⟨rfl,hfu,hti,hs3.lands.drop⟩
set_option maxRecDepth 100000 in
set_option maxHeartbeats 4000000 in
theorem mCopy_full {x:Int} (hfull:∀k,1≤k→k≤256→H k≠none) (h:(mgF c ek b H).at_ w F) :
  Calls Tryz.prog 7 #[vP c.m,.int .i64 x] w (Says (.tuple #[.int .i64 0,.int .u8 9]) (mgF c ek b H) F w):=by
 obtain ⟨d,M,cs,free,hH,hb,h⟩:=h
 refine TTg [VP c.m,V64 x] Tryz.func7 Tryz.ntmps7 h ?_
 refine TTa 0 ⟨[(2,.p 0 0),(3,.p 1 0)],[(0,⟨24,false,[VP c.m]⟩),(1,⟨3,false,[V64 x]⟩)]⟩ ?_
 refine TTE 2 false [2,3] 10 ?_
 refine RV.bs (α:=Int) (s:=1) (enc:=fun x:Int=>[.int .i64 x]) (E:=3) 2 85 1 [(0,.int .i64 x)] #[.int .i64 x] [x] (by kernel_rfl) (by kernel_rfl) (by kernel_rfl) (by kernel_rfl) rfl rfl (by decide) (fun _=>rfl) (fun A1=>?_)
 refine RVc 3 21 (fun ρ=>[.pointer (some ⟨c.m,0,none⟩),.slice A1 1 1]) [] (fun ρ w1 F1 hF1 hpk1=>?_)
 refine (roomL_full hF1 hH hfull).mono ?_
 rintro e1 w'1 ⟨rfl,hl1⟩
 refine ⟨.v (.tuple #[.int .u8 0,.int .u8 9]),_,rfl,hl1,?_⟩
 refine RVz ⟨[(2,.p 0 0),(3,.p 1 0),(6,V8 0),(7,V8 9)],[(0,⟨24,false,[VP c.m]⟩),(1,⟨3,false,[V64 x]⟩)]⟩ ?_
 refine TT.seq (TTa 10 ⟨[(2,.p 0 0),(3,.p 1 0),(6,V8 0),(7,V8 9),(16,VB true)],[(0,⟨24,false,[VP c.m]⟩),(1,⟨3,false,[V64 x]⟩)]⟩ ?_)
 refine TTy ?_
 refine TTa 10 ⟨[(4,V64 0),(5,V8 9)],[]⟩ ?_
 refine TTt Tryz.results7 (V64 0) (V8 9) (fun _ _ h=>h) (fun ρ a w2 hs2=>?_)
 exact ⟨rfl,hs2.lands.imp (fun _ h=>mgF_of h hH hb)⟩
set_option maxRecDepth 100000 in
set_option maxHeartbeats 4000000 in
theorem mCopy_ok {a0:Nat} {f:Int} {t:BT} (ha1:1≤a0) (ha:a0≤256) (hHa:H a0=some (f,t)) (hek:ek<2^61) (hfr:∃a,1≤a∧a≤256∧H a=none) (h:(mgF c ek b H).at_ w F) :
  Calls Tryz.prog 7 #[vP c.m,.int .i64 (a0:Int)] w (MOut c ek b H (0) False (f,t) F w):=by
 obtain ⟨d,M,cs,free,hH,hb,h⟩:=h
 have hsm:=hH.same_one ha1 ha hHa
 refine TTg [VP c.m,V64 (a0:Int)] Tryz.func7 Tryz.ntmps7 h ?_
 refine TTa 0 ⟨[(2,.p 0 0),(3,.p 1 0)],[(0,⟨24,false,[VP c.m]⟩),(1,⟨3,false,[V64 (a0:Int)]⟩)]⟩ ?_
 refine TTE 2 false [2,3] 10 ?_
 refine RV.bs (α:=Int) (s:=1) (enc:=fun x:Int=>[.int .i64 x]) (E:=3) 2 85 1 [(0,.int .i64 (a0:Int))] #[.int .i64 (a0:Int)] [(a0:Int)] (by kernel_rfl) (by kernel_rfl) (by kernel_rfl) (by kernel_rfl) rfl rfl (by decide) (fun _=>rfl) (fun A1=>?_)
 refine RVc 3 21 (fun ρ=>[.pointer (some ⟨c.m,0,none⟩),.slice A1 1 1]) [] (fun ρ w1 F1 hF1 hpk1=>?_)
 refine (roomL_some hF1 hH hfr hsm).mono ?_
 rintro e1 w'1 ⟨rfl,hl1⟩
 refine ⟨.v (.tuple #[.int .u8 f,.int .u8 0]),_,rfl,hl1,?_⟩
 refine RVz ⟨[(2,.p 0 0),(3,.p 1 0),(6,V8 f),(7,V8 0)],[(0,⟨24,false,[VP c.m]⟩),(1,⟨3,false,[V64 (a0:Int)]⟩)]⟩ ?_
 refine TT.seq (TTa 10 ⟨[(2,.p 0 0),(3,.p 1 0),(6,V8 f),(7,V8 0),(16,VB false)],[(0,⟨24,false,[VP c.m]⟩),(1,⟨3,false,[V64 (a0:Int)]⟩)]⟩ ?_)
 refine TTu (TT.next ?_)
 refine TT.give 0 (b:=⟨24,false,[VP c.m]⟩) (cs:= #[.pointer (some ⟨c.m,0,none⟩)]) (fun b0=>⟨[(2,VP b0),(3,.p 1 0),(6,V8 f),(7,V8 0),(16,VB false)],[(1,⟨3,false,[V64 (a0:Int)]⟩)]⟩) (by kernel_rfl) rfl (fun _=>rfl) (fun _=>rfl) (fun b0=>?_)
 refine TT.give 1 (b:=⟨3,false,[V64 (a0:Int)]⟩) (cs:= #[.int .i64 (a0:Int)]) (fun b1=>⟨[(2,VP b0),(3,VP b1),(6,V8 f),(7,V8 0),(16,VB false)],[]⟩) (by kernel_rfl) rfl (fun _=>rfl) (fun _=>rfl) (fun b1=>?_)
 refine TT.res (R':=sepR (sepR (blkR b1 3 #[.int .i64 (a0:Int)]) (blkR b0 24 #[vP c.m])) (mgT c d ek M cs free)) (fun W F h=>sepR_unassoc (sepR_imp h (fun _ h=>h) (fun _ h=>h))) ?_
 refine TTe 2 [0,3] ?_
 refine RVd 0 (.load 24 (.v (.pointer (some ⟨b0,0,none⟩)))) (VP c.m) (fun ρ w F hF=>run_ld (by kernel_rfl) (((sepR_snd (sepR_fst hF).choose_spec).choose_spec).2.cell 0)) ?_
 refine RVc 3 22 (fun ρ=>[.pointer (some ⟨c.m,0,none⟩),.int .u8 f,.func (.func 23) #[] #[.pointer (some ⟨b0,0,none⟩),.pointer (some ⟨b1,0,none⟩)]]) [] (fun ρ w2 F2 hF2 hpk2=>?_)
 refine (putM_ok hF2 hH (workCopy (k:=0) ha hHa) hb hek (hH.ed _ f _ (by omega) hHa).2.1 ((hH.ed _ f _ (by omega) hHa).2.2.1) hfr).mono ?_
 rintro e2 w'2 (⟨j0,hle,rfl,hl2⟩|⟨rfl,hfu,hti,hl2⟩)
 ·refine ⟨.v (.tuple #[.int .i64 (j0:Int),.int .u8 0]),_,rfl,hl2,?_⟩
  refine RVz ⟨[(4,V64 (j0:Int)),(5,V8 0)],[]⟩ ?_
  refine TTt Tryz.results7 (V64 (j0:Int)) (V8 0) (fun _ _ h=>h) (fun ρ a w3 hs3=>?_)
  exact .inl ⟨j0,hle,rfl,hs3.lands.drop⟩
 ·refine ⟨.v (.tuple #[.int .i64 0,.int .u8 6]),_,rfl,hl2,?_⟩
  refine RVz ⟨[(4,V64 0),(5,V8 6)],[]⟩ ?_
  refine TTt Tryz.results7 (V64 0) (V8 6) (fun _ _ h=>h) (fun ρ a w4 hs4=>?_)
  exact .inr ⟨rfl,hfu,hti,hs4.lands.drop⟩
set_option maxRecDepth 100000 in
set_option maxHeartbeats 4000000 in
theorem mApply_ok {op:Int} {a0 a1:Nat} {f:Int} {t u:BT} (ha1:1≤a0) (ha:a0≤256) (hHa:H a0=some (f,t)) (hb1:1≤a1) (hbb:a1≤256) (hHb:H a1=some (f,u)) (hek:ek<2^61) (hfr:∃a,1≤a∧a≤256∧H a=none) (hop:0≤op∧op≤15) (h:(mgF c ek b H).at_ w F) :
  Calls Tryz.prog 11 #[vP c.m,.int .i64 op,.int .i64 (a0:Int),.int .i64 (a1:Int)] w (MOut c ek b H (jobK c.n) True (f,ap2 op.toNat t u) F w):=by
 obtain ⟨d,M,cs,free,hH,hb,h⟩:=h
 have hsm:=hH.same_two ha1 ha hHa hb1 hbb hHb
 refine TTg [VP c.m,V64 op,V64 (a0:Int),V64 (a1:Int)] Tryz.func11 Tryz.ntmps11 h ?_
 refine TTa 0 ⟨[(4,.p 0 0),(5,.p 1 0),(6,.p 2 0),(7,.p 3 0)],[(0,⟨24,false,[VP c.m]⟩),(1,⟨3,false,[V64 op]⟩),(2,⟨3,false,[V64 (a0:Int)]⟩),(3,⟨3,false,[V64 (a1:Int)]⟩)]⟩ ?_
 refine TTE 2 false [3,4] 10 ?_
 refine RV.bs (α:=Int) (s:=1) (enc:=fun x:Int=>[.int .i64 x]) (E:=3) 3 85 2 [(0,.int .i64 (a0:Int)),(1,.int .i64 (a1:Int))] #[.int .i64 (a0:Int),.int .i64 (a1:Int)] [(a0:Int),(a1:Int)] (by kernel_rfl) (by kernel_rfl) (by kernel_rfl) (by kernel_rfl) rfl rfl (by decide) (fun _=>rfl) (fun A1=>?_)
 refine RVc 4 21 (fun ρ=>[.pointer (some ⟨c.m,0,none⟩),.slice A1 2 2]) [] (fun ρ w1 F1 hF1 hpk1=>?_)
 refine (roomL_some hF1 hH hfr hsm).mono ?_
 rintro e1 w'1 ⟨rfl,hl1⟩
 refine ⟨.v (.tuple #[.int .u8 f,.int .u8 0]),_,rfl,hl1,?_⟩
 refine RVz ⟨[(4,.p 0 0),(5,.p 1 0),(6,.p 2 0),(7,.p 3 0),(10,.p 18 0),(11,V8 0)],[(0,⟨24,false,[VP c.m]⟩),(1,⟨3,false,[V64 op]⟩),(2,⟨3,false,[V64 (a0:Int)]⟩),(3,⟨3,false,[V64 (a1:Int)]⟩),(18,⟨23,false,[V8 f]⟩)]⟩ ?_
 refine TT.seq (TTa 20 ⟨[(4,.p 0 0),(5,.p 1 0),(6,.p 2 0),(7,.p 3 0),(10,.p 18 0),(11,V8 0),(21,VB false)],[(0,⟨24,false,[VP c.m]⟩),(1,⟨3,false,[V64 op]⟩),(2,⟨3,false,[V64 (a0:Int)]⟩),(3,⟨3,false,[V64 (a1:Int)]⟩),(18,⟨23,false,[V8 f]⟩)]⟩ ?_)
 refine TTu (TT.next ?_)
 refine TT.give 0 (b:=⟨24,false,[VP c.m]⟩) (cs:= #[.pointer (some ⟨c.m,0,none⟩)]) (fun b0=>⟨[(4,VP b0),(5,.p 1 0),(6,.p 2 0),(7,.p 3 0),(10,.p 18 0),(11,V8 0),(21,VB false)],[(1,⟨3,false,[V64 op]⟩),(2,⟨3,false,[V64 (a0:Int)]⟩),(3,⟨3,false,[V64 (a1:Int)]⟩),(18,⟨23,false,[V8 f]⟩)]⟩) (by kernel_rfl) rfl (fun _=>rfl) (fun _=>rfl) (fun b0=>?_)
 refine TT.give 18 (b:=⟨23,false,[V8 f]⟩) (cs:= #[.int .u8 f]) (fun b1=>⟨[(4,VP b0),(5,.p 1 0),(6,.p 2 0),(7,.p 3 0),(10,VP b1),(11,V8 0),(21,VB false)],[(1,⟨3,false,[V64 op]⟩),(2,⟨3,false,[V64 (a0:Int)]⟩),(3,⟨3,false,[V64 (a1:Int)]⟩)]⟩) (by kernel_rfl) rfl (fun _=>rfl) (fun _=>rfl) (fun b1=>?_)
 refine TT.give 1 (b:=⟨3,false,[V64 op]⟩) (cs:= #[.int .i64 op]) (fun b2=>⟨[(4,VP b0),(5,VP b2),(6,.p 2 0),(7,.p 3 0),(10,VP b1),(11,V8 0),(21,VB false)],[(2,⟨3,false,[V64 (a0:Int)]⟩),(3,⟨3,false,[V64 (a1:Int)]⟩)]⟩) (by kernel_rfl) rfl (fun _=>rfl) (fun _=>rfl) (fun b2=>?_)
 refine TT.give 2 (b:=⟨3,false,[V64 (a0:Int)]⟩) (cs:= #[.int .i64 (a0:Int)]) (fun b3=>⟨[(4,VP b0),(5,VP b2),(6,VP b3),(7,.p 3 0),(10,VP b1),(11,V8 0),(21,VB false)],[(3,⟨3,false,[V64 (a1:Int)]⟩)]⟩) (by kernel_rfl) rfl (fun _=>rfl) (fun _=>rfl) (fun b3=>?_)
 refine TT.give 3 (b:=⟨3,false,[V64 (a1:Int)]⟩) (cs:= #[.int .i64 (a1:Int)]) (fun b4=>⟨[(4,VP b0),(5,VP b2),(6,VP b3),(7,VP b4),(10,VP b1),(11,V8 0),(21,VB false)],[]⟩) (by kernel_rfl) rfl (fun _=>rfl) (fun _=>rfl) (fun b4=>?_)
 refine TT.res (R':=sepR (sepR (blkR b4 3 #[.int .i64 (a1:Int)]) (sepR (blkR b3 3 #[.int .i64 (a0:Int)]) (sepR (blkR b2 3 #[.int .i64 op]) (sepR (blkR b1 23 #[.int .u8 f]) (blkR b0 24 #[vP c.m]))))) (mgT c d ek M cs free)) (fun W F h=>sepR_unassoc (sepR_imp h (fun _ h=>h) (fun _ h=>sepR_unassoc (sepR_imp h (fun _ h=>h) (fun _ h=>sepR_unassoc (sepR_imp h (fun _ h=>h) (fun _ h=>sepR_unassoc (sepR_imp h (fun _ h=>h) (fun _ h=>h))))))))) ?_
 refine TTe 3 [0,1,3] ?_
 refine RVd 0 (.load 24 (.v (.pointer (some ⟨b0,0,none⟩)))) (VP c.m) (fun ρ w F hF=>run_ld (by kernel_rfl) (((sepR_snd (sepR_snd (sepR_snd (sepR_snd (sepR_fst hF).choose_spec).choose_spec).choose_spec).choose_spec).choose_spec).2.cell 0)) ?_
 refine RVd 1 (.load 23 (.v (.pointer (some ⟨b1,0,none⟩)))) (V8 f) (fun ρ w F hF=>run_ld (by kernel_rfl) (((sepR_fst (sepR_snd (sepR_snd (sepR_snd (sepR_fst hF).choose_spec).choose_spec).choose_spec).choose_spec).choose_spec).2.cell 0)) ?_
 refine RVc 3 22 (fun ρ=>[.pointer (some ⟨c.m,0,none⟩),.int .u8 f,.func (.func 28) #[] #[.pointer (some ⟨b0,0,none⟩),.pointer (some ⟨b1,0,none⟩),.pointer (some ⟨b2,0,none⟩),.pointer (some ⟨b3,0,none⟩),.pointer (some ⟨b4,0,none⟩)]]) [] (fun ρ w2 F2 hF2 hpk2=>?_)
 refine (putM_ok hF2 hH (workApply hop ha hbb hHa hHb) hb hek (hH.ed _ f _ (by omega) hHa).2.1 (ap2_dep _ _ _ _ (hH.ed _ f _ (by omega) hHa).2.2.1 (hH.ed _ f _ (by omega) hHb).2.2.1) hfr).mono ?_
 rintro e2 w'2 (⟨j0,hle,rfl,hl2⟩|⟨rfl,hfu,hti,hl2⟩)
 ·refine ⟨.v (.tuple #[.int .i64 (j0:Int),.int .u8 0]),_,rfl,hl2,?_⟩
  refine RVz ⟨[(8,V64 (j0:Int)),(9,V8 0)],[]⟩ ?_
  refine TTt Tryz.results11 (V64 (j0:Int)) (V8 0) (fun _ _ h=>h) (fun ρ a w3 hs3=>?_)
  exact .inl ⟨j0,hle,rfl,hs3.lands.drop⟩
 ·refine ⟨.v (.tuple #[.int .i64 0,.int .u8 6]),_,rfl,hl2,?_⟩
  refine RVz ⟨[(8,V64 0),(9,V8 6)],[]⟩ ?_
  refine TTt Tryz.results11 (V64 0) (V8 6) (fun _ _ h=>h) (fun ρ a w4 hs4=>?_)
  exact .inr ⟨rfl,hfu,hti,hs4.lands.drop⟩
set_option maxRecDepth 100000 in
set_option maxHeartbeats 4000000 in
theorem mDrop_ok {a0:Nat} {f:Int} {t:BT} (ha1:1≤a0) (ha:a0≤256) (hHa:H a0=some (f,t)) (h:(mgF c ek b H).at_ w F) :
  Calls Tryz.prog 8 #[vP c.m,.int .i64 (a0:Int)] w (Says (.int .u8 0) (mgF c ek b (H.put a0 none)) F w):=by
 obtain ⟨d,M,cs,free,hH,hb,h⟩:=h
 have hsm:=hH.same_one ha1 ha hHa
 refine TTg [VP c.m,V64 (a0:Int)] Tryz.func8 Tryz.ntmps8 h ?_
 refine TTa 0 ⟨[(0,VP c.m),(1,V64 (a0:Int))],[]⟩ ?_
 refine TT.seq (TTe 2 [2,3] ?_)
 refine RV.bs (α:=Int) (s:=1) (enc:=fun x:Int=>[.int .i64 x]) (E:=3) 2 85 1 [(0,.int .i64 (a0:Int))] #[.int .i64 (a0:Int)] [(a0:Int)] (by kernel_rfl) (by kernel_rfl) (by kernel_rfl) (by kernel_rfl) rfl rfl (by decide) (fun _=>rfl) (fun A1=>?_)
 refine RVc 3 24 (fun ρ=>[.pointer (some ⟨c.m,0,none⟩),.slice A1 1 1]) [] (fun ρ w1 F1 hF1 hpk1=>?_)
 refine (sameL hF1 hsm).mono ?_
 rintro e1 w'1 ⟨rfl,hl1⟩
 refine ⟨.v (.tuple #[.int .u8 f,.int .u8 0]),_,rfl,hl1,?_⟩
 refine RVz ⟨[(0,VP c.m),(1,V64 (a0:Int)),(6,V8 0)],[]⟩ ?_
 refine TTa 0 ⟨[(0,VP c.m),(1,V64 (a0:Int)),(6,V8 0),(15,VB false)],[]⟩ ?_
 refine TTu (TT.next ?_)
 refine TTE 4 true [7,8,11,12] 0 ?_
 refine RVd 7 (.idx 45 (.v (.pointer (some ⟨c.m,5,none⟩))) (V64 (a0:Int))) (.v (.pointer (some ⟨c.m,5+a0,none⟩))) (fun ρ w F hF=>mg_ixL (by omega)) ?_
 refine RVw 8 (.store 4 (.v (.pointer (some ⟨c.m,5+a0,none⟩))) (VB false)) (fun ρ w F hF=>⟨_,.v undef,mgT c d ek (M.setLive a0 false) cs free,(mgT_stL (by omega) false hF).1,(mgT_stL (by omega) false hF).2,?_⟩)
 refine RVd 11 (.idx 51 (.v (.pointer (some ⟨c.m,262,none⟩))) (V64 (a0:Int))) (.v (.pointer (some ⟨c.m,262+a0*3,none⟩))) (fun ρ w F hF=>mg_ixR (by omega)) ?_
 refine RVw 12 (.store 50 (.v (.pointer (some ⟨c.m,262+a0*3,none⟩))) (.v (.agg #[.int .u8 0,.int .u8 0,.int .u32 0]))) (fun ρ w F hF=>⟨_,.v undef,mgT c d ek ((M.setLive a0 false).setRoot a0 (0,⟨0,0⟩)) cs free,(mgT_stR (by omega) (0,⟨0,0⟩) hF).1,(mgT_stR (by omega) (0,⟨0,0⟩) hF).2,?_⟩)
 refine RVz ⟨[],[]⟩ ?_
 refine TTa 0 ⟨[(4,V8 0)],[]⟩ ?_
 refine TTs Tryz.results8 (V8 0) (fun _ _ h=>h) (fun ρ a w2 hs2=>?_)
 exact ⟨rfl,hs2.lands.imp (fun _ h=>mgF_of h (hH.drop (a:=a0)) hb)⟩
set_option maxRecDepth 100000 in
set_option maxHeartbeats 4000000 in
theorem mDrop_bad {x:Int} (hx:¬(1≤x∧x≤256∧H x.toNat≠none)) (h:(mgF c ek b H).at_ w F) :
  Calls Tryz.prog 8 #[vP c.m,.int .i64 x] w (Says (.int .u8 5) (mgF c ek b H) F w):=by
 obtain ⟨d,M,cs,free,hH,hb,h⟩:=h
 have hsm:=hH.same_bad (xs:=[x]) (by simp) hx
 refine TTg [VP c.m,V64 x] Tryz.func8 Tryz.ntmps8 h ?_
 refine TTa 0 ⟨[(0,VP c.m),(1,V64 x)],[]⟩ ?_
 refine TT.seq (TTe 2 [2,3] ?_)
 refine RV.bs (α:=Int) (s:=1) (enc:=fun x:Int=>[.int .i64 x]) (E:=3) 2 85 1 [(0,.int .i64 x)] #[.int .i64 x] [x] (by kernel_rfl) (by kernel_rfl) (by kernel_rfl) (by kernel_rfl) rfl rfl (by decide) (fun _=>rfl) (fun A1=>?_)
 refine RVc 3 24 (fun ρ=>[.pointer (some ⟨c.m,0,none⟩),.slice A1 1 1]) [] (fun ρ w1 F1 hF1 hpk1=>?_)
 refine (sameL hF1 hsm).mono ?_
 rintro e1 w'1 ⟨rfl,hl1⟩
 refine ⟨.v (.tuple #[.int .u8 0,.int .u8 5]),_,rfl,hl1,?_⟩
 refine RVz ⟨[(0,VP c.m),(1,V64 x),(6,V8 5)],[]⟩ ?_
 refine TTa 0 ⟨[(0,VP c.m),(1,V64 x),(6,V8 5),(15,VB true)],[]⟩ ?_
 refine TTy ?_
 refine TTa 0 ⟨[(4,V8 5)],[]⟩ ?_
 refine TTs Tryz.results8 (V8 5) (fun _ _ h=>h) (fun ρ a w2 hs2=>?_)
 exact ⟨rfl,hs2.lands.imp (fun _ h=>mgF_of h hH hb)⟩
set_option maxRecDepth 100000 in
set_option maxHeartbeats 4000000 in
theorem mNodes (h:(mgF c ek b H).at_ w F) :
  Calls Tryz.prog 10 #[vP c.m] w (fun e w'=>∃k:Nat,e = .returned (.int .i64 (k:Int))∧k≤b∧k≤c.room∧Lands (mgF c ek b H) F w w'):=by
 obtain ⟨d,M,cs,free,hH,hb,h⟩:=h
 have hroom:=mgT_room h
 refine TTg [VP c.m] Tryz.func10 Tryz.ntmps10 h ?_
 refine TTa 0 ⟨[(0,VP c.m)],[]⟩ ?_
 refine TT.seq (TTa 0 ⟨[(0,VP c.m),(4,VB false)],[]⟩ ?_)
 refine TTu (TT.next ?_)
 refine TTe 2 [3,4] ?_
 refine RVd 3 (.load 36 (.v (.pointer (some ⟨c.m,3,none⟩)))) (VP M.st) (fun ρ w F hF=>mg_ldP 3 (by omega) _ rfl (by kernel_rfl) (mgT_blks hF).2.2.2) ?_
 refine RVc 4 27 (fun ρ=>[.pointer (some ⟨M.st,0,none⟩)]) [] (fun ρ w1 F1 hF1 hpk1=>?_)
 refine (mgT_len hF1).mono ?_
 rintro e1 w'1 ⟨rfl,rfl⟩
 refine ⟨V64 (cntC cs:Int),_,rfl,.of_below hF1 (Below.refl _ _),?_⟩
 refine RVz ⟨[(2,V64 (cntC cs:Int))],[]⟩ ?_
 refine TTs Tryz.results10 (V64 (cntC cs:Int)) (fun _ _ h=>h) (fun ρ a w2 hs2=>?_)
 exact ⟨cntC cs,rfl,hb,hroom,hs2.lands.imp (fun _ h=>mgF_of h hH hb)⟩
end
def mgZ0 (i:Nat):Value:=if i<5 then .pointer none else if i<262 then .bool false else if (i-262)%3=2 then .int .u32 0 else .int .u8 0
def mgZl (gs:Nat):List Value:=((List.range 1033).map mgZ0).set 3 (vP gs)
def mgZ (gs:Nat):Array Value:=(mgZl gs).toArray
def mgZb (gs:Nat):SBlk:=⟨tMg,false,(mgZl gs).map SV.v⟩
theorem mgZ_cells (gs:Nat) (ρ:Nat→Nat):cellsV ρ (mgZb gs).cells=mgZ gs:=by
 unfold cellsV mgZb mgZ
 simp only [List.map_map]
 have:(SV.val ρ∘SV.v)=id:=rfl
 rw [this,List.map_id]
theorem mgZ_size (gs:Nat):(mgZ gs).size=1033:=by simp [mgZ,mgZl]
theorem mgZ_get (gs i:Nat):(mgZ gs)[i]? =if i<1033 then some (if i=3 then vP gs else mgZ0 i) else none:=by
 unfold mgZ mgZl
 rw [List.getElem?_toArray,List.getElem?_set]
 by_cases h:i<1033
 ·rw [if_pos h,List.getElem?_map,List.getElem?_range h]
  by_cases e:3=i
  ·rw [if_pos e,if_pos e.symm]
   simp
  ·rw [if_neg e,if_neg (fun h=>e h.symm)]
   rfl
 ·rw [if_neg h,if_neg (by omega),List.getElem?_eq_none (by simpa using h)]
theorem mgZ_all (gs go o qu gu:Nat):((((mgZ gs).setIfInBounds 4 (vP go)).setIfInBounds 0 (vP o)).setIfInBounds 1 (vP qu)).setIfInBounds 2 (vP gu)=mgCells ⟨o,qu,gu,gs,go,fun _=>false,fun _=>(0,⟨0,0⟩)⟩:=by
 apply Array.ext_getElem?
 intro i
 rw [mgCells_get]
 simp only [Array.getElem?_setIfInBounds,Array.size_setIfInBounds,mgZ_size,mgZ_get]
 by_cases h:i<1033
 ·rw [if_pos h]
  unfold mgCell
  by_cases e2:2=i
  ·subst e2;simp
  ·by_cases e1:1=i
   ·subst e1;simp
   ·by_cases e0:0=i
    ·subst e0;simp
    ·by_cases e4:4=i
     ·subst e4;simp
     ·by_cases e3:i=3
      ·subst e3;simp
      ·rw [if_neg e2,if_neg e1,if_neg e0,if_neg e4,if_pos h,if_neg e3,if_neg (fun h=>e0 h.symm),if_neg (fun h=>e1 h.symm),if_neg (fun h=>e2 h.symm),if_neg e3,if_neg (fun h=>e4 h.symm)]
       unfold mgZ0
       rw [if_neg (by omega)]
       by_cases h6:i<262
       ·rw [if_pos h6,if_pos h6]
       ·rw [if_neg h6,if_neg h6]
        have:(i-262)%3=0∨(i-262)%3=1∨(i-262)%3=2:=by omega
        rcases this with e|e|e<;>simp [e]
 ·rw [if_neg h]
  repeat (first|rw [if_neg h]|rw [if_neg (by omega)])
theorem blkR_st {t ty:TypeId} {cells:Array Value} {m:Nat} {R:Res} {w:World} {F:List Nat} (off:Nat) (x:Value) (h:(sepR (blkR m ty cells) R).at_ w F) (ht:(Tryz.prog.info? t).map (·.size)=some 1) (ho:off<cells.size) (h1:x.cells = #[x]) (hx:x.oneCell'=true) :
  (do Instr.storeAt t (.pointer (some ⟨m,off,none⟩)) x;pure undef:Sem Value).run Tryz.prog w = .ok undef (w.setCells m off [x])∧Lands (sepR (blkR m ty (cells.setIfInBounds off x)) R) F w (w.setCells m off [x]):=by
 obtain ⟨F1,F2,e0,⟨rfl,hB⟩,hR,hd⟩:=h
 have hch:Chg [m] w (w.setCells m off [x]):=Chg.setCells (Chg.refl _ _) (.inl (by simp)) _ _
 refine ⟨?_,[m]++F2,⟨[m],F2,fun x=>List.mem_append,⟨rfl,hB.set_ off x⟩,R.chg hR hch (fun k hk hm=>?_),hd⟩,fun y hy=> .inl ((e0 y).2 (List.mem_append.1 hy)),hch.mono fun x hx=> .inl ((e0 x).2 (.inl hx))⟩
 ·have:=run_st (P:=Tryz.prog) (w:=w) (t:=t) (b:=m) (off:=off) (v:=x) (by rw [h1];exact ht) (fun j hj=>by
   rw [h1] at hj
   have:j=0:=by simpa using hj
   subst this
   rw [Nat.add_zero,hB.cell,Array.getElem?_eq_getElem ho]
   rfl) (fun j hj=>hB.frozen _) (fun u hu=>by rw [h1] at hu;simp at hu;subst hu;exact hx)
  rw [h1] at this
  exact this
 ·rw [List.mem_singleton] at hm
  subst hm
  exact hd k (by simp) hk
theorem lands_newF {A R:Res} {w w':World} {F F':List Nat} (hF:R.at_ w F) (hb:∀k∈F',w.heap.size≤k) (hA:A.at_ w' F') (hw:Below w.heap.size w w'):Lands (sepR A R) F w w':=by
 have hc:=chg_of_below (F:=[]) hw
 refine ⟨F'++F,⟨F',F,fun x=>List.mem_append,hA,R.chg hF hc (fun _ _ h=>by cases h),fun x hx hm=>?_⟩,fun y hy=>?_,hc.mono fun x hx=>by cases hx⟩
 ·have:=hb x hx
  have:=R.lt hF x hm
  omega
 ·rcases List.mem_append.1 hy with h|h
  ·exact .inr (hb y h)
  ·exact .inl h
theorem storeN {n room:Nat} {R:Res} {F:List Nat} {w:World} (h0:n≤16) (h1:room≤1048576) (h:R.at_ w F):Calls Tryz.prog 13 #[.int .i64 (n:Int),.int .i64 (room:Int)] w (fun e w'=>∃g:Nat,e = .returned (.tuple #[vP g,.int .u8 0])∧Lands (sepR (stR g n room [] []) R) F w w'):=by
 refine (storeNew_yes (n:Int) (room:Int) w (by omega) (by omega) (by omega) (by omega)).mono ?_
 rintro e w' ⟨⟨g,Fs,rfl,hst,hF⟩,hb⟩
 exact ⟨g,rfl,lands_newF h hF ⟨hst,by simp,by simp⟩ hb⟩
theorem orderN {n:Nat} {R:Res} {F:List Nat} {w:World} (h0:n≤16) (h:R.at_ w F):Calls Tryz.prog 14 #[.int .i64 (n:Int)] w (fun e w'=>∃i:{i:Nat×List Int // InvOf (iota n) i.2},e = .returned (.tuple #[vP i.1.1,.int .u8 0])∧Lands (sepR (ordR i.1.1 (iota n) i.1.2) R) F w w'):=by
 refine (orderNew_yes (n:Int) w (by omega) (by omega)).mono ?_
 rintro e w' ⟨g,Fs,ls,rfl,hO,hi,hF,hb⟩
 exact ⟨⟨(g,ls),hi⟩,rfl,lands_newF h hF hO hb⟩
def sepL:List Res→Res
 | []=>emptyR
 | x::l=>sepR x (sepL l)
theorem sepL_perm {l l':List Res} (hp:l.Perm l'):∀{W:World} {F:List Nat},(sepL l).at_ W F→(sepL l').at_ W F:=by
 induction hp with
 | nil=>exact fun h=>h
 | cons x _ ih=>exact fun h=>sepR_imp h (fun _ h=>h) (fun _ h=>ih h)
 | swap x y l=>exact fun h=>sepR_swap h
 | trans _ _ i1 i2=>exact fun h=>i2 (i1 h)
theorem sepR_tail {A:Res} {W:World} {F:List Nat} (h:A.at_ W F):(sepR A emptyR).at_ W F:=⟨F,[],fun x=>by simp,h,rfl,fun x _ hx=>by cases hx⟩
theorem mgN_perm {r0 r1 r2 r3 r4 r5 r6 r7 r8 r9:Res} {W:World} {F:List Nat} (h:(sepR r0 (sepR r1 (sepR r2 (sepR r3 (sepR r4 (sepR r5 (sepR r6 (sepR r7 (sepR r8 r9))))))))).at_ W F) :
  (sepR (sepR r9 emptyR) (sepR (sepR r8 (sepR r6 (sepR r4 (sepR r2 r7)))) (sepR r0 (sepR r5 (sepR r3 r1))))).at_ W F:=by
 have h1:(sepL [r0,r1,r2,r3,r4,r5,r6,r7,r8,r9]).at_ W F:=sepR_imp h (fun _ h=>h) (fun _ h=>sepR_imp h (fun _ h=>h) (fun _ h=>sepR_imp h (fun _ h=>h) (fun _ h=>sepR_imp h (fun _ h=>h) (fun _ h=>sepR_imp h (fun _ h=>h) (fun _ h=>sepR_imp h (fun _ h=>h) (fun _ h=>sepR_imp h (fun _ h=>h) (fun _ h=>sepR_imp h (fun _ h=>h) (fun _ h=>sepR_imp h (fun _ h=>h) (fun _ h=>sepR_tail h)))))))))
 have h2:=sepL_perm (l':=[r8,r6,r4,r2,r7,r0,r5,r3,r1,r9]) (List.Perm.map (fun i=>[r0,r1,r2,r3,r4,r5,r6,r7,r8,r9].getD i emptyR) (show [0,1,2,3,4,5,6,7,8,9].Perm [8,6,4,2,7,0,5,3,1,9] by decide)) h1
 have h3:(sepR (sepR r8 (sepR r6 (sepR r4 (sepR r2 (sepR r7 (sepR r0 (sepR r5 (sepR r3 r1)))))))) (sepR r9 emptyR)).at_ W F:=by
  have h:=h2
  exact sepR_unassoc (sepR_imp h (fun _ h=>h) (fun _ h=>sepR_unassoc (sepR_imp h (fun _ h=>h) (fun _ h=>sepR_unassoc (sepR_imp h (fun _ h=>h) (fun _ h=>sepR_unassoc (sepR_imp h (fun _ h=>h) (fun _ h=>sepR_unassoc (sepR_imp h (fun _ h=>h) (fun _ h=>sepR_unassoc (sepR_imp h (fun _ h=>h) (fun _ h=>sepR_unassoc (sepR_imp h (fun _ h=>h) (fun _ h=>sepR_unassoc (sepR_imp h (fun _ h=>h) (fun _ h=>h))))))))))))))))
 exact sepR_comm (sepR_imp h3 (fun _ h=>sepR_unassoc (sepR_imp h (fun _ h=>h) (fun _ h=>sepR_unassoc (sepR_imp h (fun _ h=>h) (fun _ h=>sepR_unassoc (sepR_imp h (fun _ h=>h) (fun _ h=>sepR_unassoc (sepR_imp h (fun _ h=>h) (fun _ h=>h))))))))) (fun _ h=>h))
theorem ordOk_iota {n:Nat} {ls:List Int} (h0:n≤16) (hinv:InvOf (iota n) ls):OrdOk n (iota n) ls:=by
 refine ⟨iota_perm h0,hinv,iota_length n,by rw [hinv.1,iota_length],fun x hx hn=>?_⟩
 obtain ⟨k,rfl⟩:=Int.eq_ofNat_of_zero_le hx
 have h:=hinv.2 k (by rw [iota_length];omega)
 rw [iota_get (by omega),Int.toNat_natCast] at h
 have hl:ls.length=n:=by rw [hinv.1,iota_length]
 unfold atI
 rw [if_pos (by omega),Int.toNat_natCast,h]
 omega
theorem hdOk_none (n:Nat) {o qu gu gs go:Nat}:HdOk n ⟨o,qu,gu,gs,go,fun _=>false,fun _=>(0,⟨0,0⟩)⟩ (fun _=>none) []:=⟨fun _ _=>rfl,rfl,fun _ _ _ _ h=>by cases h⟩
theorem mgN_close {n room m o qu gu gs go ca cq cf:Nat} {ls:List Int} {w w':World} (h:Lands (sepR (blkR m tMg (mgCells ⟨o,qu,gu,gs,go,fun _=>false,fun _=>(0,⟨0,0⟩)⟩)) (sepR (blkR gu 111 #[vP o,vP gs,vP cf,.int .u8 0]) (sepR (caR tCF tEF 8 FJ.cells cf 1 (AnsF n [])) (sepR (blkR qu 104 #[vP o,vP gs,vP cq]) (sepR (caR tCQ tEQ 8 QJ.cells cq 1 (AnsQ n [])) (sepR (blkR o 95 #[vP gs,vP ca]) (sepR (caR tCA tEA 9 Jb.cells ca 1 (AnsA n [])) (sepR (ordR go (iota n) ls) (sepR (stR gs n room [] []) emptyR))))))))) [] w w') :
  Lands (mgT ⟨m,n,room,iota n,ls⟩ ⟨ca,cq,cf,.int .u8 0⟩ 1 ⟨o,qu,gu,gs,go,fun _=>false,fun _=>(0,⟨0,0⟩)⟩ [] []) [] w w':=
 (h.imp fun _ h=>mgN_perm h).drop.imp fun _ h=>sepR_imp h (fun _ h=>sepR_imp h (fun _ h=>h) (fun _ h=>sepR_imp h (fun _ h=>caR_ansB h) (fun _ h=>h))) (fun _ h=>h)
theorem opsStore {o g:Nat} {x:Value} {R:Res} {F:List Nat} {w:World} (h:R.at_ w F) (hO:∀{W:World} {X:List Nat},R.at_ W X→Blk W o 95 #[vP g,x]):Calls Tryz.prog 37 #[.pointer (some ⟨o,0,none⟩)] w (Says (vP g) R F w):=by
 refine TTg [VP o] Tryz.func37 Tryz.ntmps37 h ?_
 refine TTa 0 ⟨[(0,VP o)],[]⟩ ?_
 refine TT.seq (TTa 0 ⟨[(0,VP o),(4,VB false)],[]⟩ ?_)
 refine TTu (TT.next ?_)
 refine TTe 1 [3] ?_
 refine RVd 3 (.load 36 (.v (.pointer (some ⟨o,0,none⟩)))) (VP g) (fun ρ w F hF=>run_ld (by kernel_rfl) ((hO hF).cell 0)) ?_
 refine RVz ⟨[(2,VP g)],[]⟩ ?_
 refine TTs Tryz.results37 (VP g) (fun _ _ h=>h) (fun ρ a w1 hs1=>?_)
 exact ⟨rfl,hs1.lands⟩
theorem applyN {o g:Nat} {x:Value} {R:Res} {F:List Nat} {w:World} (P:Jb→Edg→Prop) (h:R.at_ w F):Calls Tryz.prog 15 #[.pointer (some ⟨g,0,none⟩),.int .i64 12] w (fun e w'=>∃i:Nat×Nat,e = .returned (.tuple #[vP i.1,.int .u8 0])∧Lands (sepR (blkR i.1 95 #[vP g,vP i.2]) (sepR (caR tCA tEA 9 Jb.cells i.2 1 P) R)) F w w'):=by
 refine TTg [VP g,V64 12] Tryz.func15 Tryz.ntmps15 h ?_
 refine TTa 0 ⟨[(0,VP g),(1,V64 12)],[]⟩ ?_
 refine TT.seq (TTa 0 ⟨[(0,VP g),(1,V64 12),(9,VB false)],[]⟩ ?_)
 refine TTu (TT.next ?_)
 refine TTe 1 [1] ?_
 refine RVc 1 35 (fun ρ=>[.int .i64 12]) [] (fun ρ w1 F1 hF1 hpk1=>?_)
 refine (cacheN_apply hF1).mono ?_
 rintro e1 w'1 ⟨ca,rfl,hl1⟩
 refine ⟨.v (.tuple #[.pointer (some ⟨ca,0,none⟩),.int .u8 0]),_,rfl,hl1 P,?_⟩
 refine RVz ⟨[(0,VP g),(6,VP ca),(7,V8 0)],[]⟩ ?_
 refine TT.seq (TTa 0 ⟨[(0,VP g),(6,VP ca),(7,V8 0),(16,VB false)],[]⟩ ?_)
 refine TTu (TT.next ?_)
 refine TTa 0 ⟨[(4,.p 3 0),(5,V8 0)],[(3,⟨95,false,[VP g,VP ca]⟩)]⟩ ?_
 refine TTt Tryz.results15 (.p 3 0) (V8 0) (fun _ _ h=>h) (fun ρ a w2 hs2=>?_)
 exact ⟨(ρ 3,ca),rfl,hs2.lands_blk (k:=3) rfl rfl⟩
theorem quantN {o g:Nat} {x:Value} {R:Res} {F:List Nat} {w:World} (P:QJ→Edg→Prop) (h:R.at_ w F) (hO:∀{W:World} {X:List Nat},R.at_ W X→Blk W o 95 #[vP g,x]):Calls Tryz.prog 16 #[.pointer (some ⟨o,0,none⟩),.int .i64 12] w (fun e w'=>∃i:Nat×Nat,e = .returned (.tuple #[vP i.1,.int .u8 0])∧Lands (sepR (blkR i.1 104 #[vP o,vP g,vP i.2]) (sepR (caR tCQ tEQ 8 QJ.cells i.2 1 P) R)) F w w'):=by
 refine TTg [VP o,V64 12] Tryz.func16 Tryz.ntmps16 h ?_
 refine TTa 0 ⟨[(0,VP o),(1,V64 12)],[]⟩ ?_
 refine TT.seq (TTa 0 ⟨[(0,VP o),(1,V64 12),(9,VB false)],[]⟩ ?_)
 refine TTu (TT.next ?_)
 refine TTe 1 [1] ?_
 refine RVc 1 36 (fun ρ=>[.int .i64 12]) [] (fun ρ w1 F1 hF1 hpk1=>?_)
 refine (cacheN_quant hF1).mono ?_
 rintro e1 w'1 ⟨ca,rfl,hl1⟩
 refine ⟨.v (.tuple #[.pointer (some ⟨ca,0,none⟩),.int .u8 0]),_,rfl,hl1 P,?_⟩
 refine RVz ⟨[(0,VP o),(6,VP ca),(7,V8 0)],[]⟩ ?_
 refine TT.seq (TTa 0 ⟨[(0,VP o),(6,VP ca),(7,V8 0),(16,VB false)],[]⟩ ?_)
 refine TTu (TT.next ?_)
 refine TTe 1 [2] ?_
 refine RVc 2 37 (fun ρ=>[.pointer (some ⟨o,0,none⟩)]) [] (fun ρ w2 F2 hF2 hpk2=>?_)
 refine (opsStore hF2 (fun h=>hO (sepR_snd h).choose_spec)).mono ?_
 rintro e2 w'2 ⟨rfl,hl2⟩
 refine ⟨VP g,_,rfl,hl2,?_⟩
 refine RVz ⟨[(4,.p 5 0),(5,V8 0)],[(5,⟨104,false,[VP o,VP g,VP ca]⟩)]⟩ ?_
 refine TTt Tryz.results16 (.p 5 0) (V8 0) (fun _ _ h=>h) (fun ρ a w3 hs3=>?_)
 exact ⟨(ρ 5,ca),rfl,hs3.lands_blk (k:=5) rfl rfl⟩
theorem familyN {o g:Nat} {x:Value} {R:Res} {F:List Nat} {w:World} (P:FJ→Edg→Prop) (h:R.at_ w F) (hO:∀{W:World} {X:List Nat},R.at_ W X→Blk W o 95 #[vP g,x]):Calls Tryz.prog 17 #[.pointer (some ⟨o,0,none⟩),.int .i64 12] w (fun e w'=>∃i:Nat×Nat,e = .returned (.tuple #[vP i.1,.int .u8 0])∧Lands (sepR (blkR i.1 111 #[vP o,vP g,vP i.2,.int .u8 0]) (sepR (caR tCF tEF 8 FJ.cells i.2 1 P) R)) F w w'):=by
 refine TTg [VP o,V64 12] Tryz.func17 Tryz.ntmps17 h ?_
 refine TTa 0 ⟨[(0,VP o),(1,V64 12)],[]⟩ ?_
 refine TT.seq (TTa 0 ⟨[(0,VP o),(1,V64 12),(9,VB false)],[]⟩ ?_)
 refine TTu (TT.next ?_)
 refine TTe 1 [1] ?_
 refine RVc 1 38 (fun ρ=>[.int .i64 12]) [] (fun ρ w1 F1 hF1 hpk1=>?_)
 refine (cacheN_family hF1).mono ?_
 rintro e1 w'1 ⟨ca,rfl,hl1⟩
 refine ⟨.v (.tuple #[.pointer (some ⟨ca,0,none⟩),.int .u8 0]),_,rfl,hl1 P,?_⟩
 refine RVz ⟨[(0,VP o),(6,VP ca),(7,V8 0)],[]⟩ ?_
 refine TT.seq (TTa 0 ⟨[(0,VP o),(6,VP ca),(7,V8 0),(16,VB false)],[]⟩ ?_)
 refine TTu (TT.next ?_)
 refine TTe 1 [2] ?_
 refine RVc 2 37 (fun ρ=>[.pointer (some ⟨o,0,none⟩)]) [] (fun ρ w2 F2 hF2 hpk2=>?_)
 refine (opsStore hF2 (fun h=>hO (sepR_snd h).choose_spec)).mono ?_
 rintro e2 w'2 ⟨rfl,hl2⟩
 refine ⟨VP g,_,rfl,hl2,?_⟩
 refine RVz ⟨[(4,.p 5 0),(5,V8 0)],[(5,⟨111,false,[VP o,VP g,VP ca,V8 0]⟩)]⟩ ?_
 refine TTt Tryz.results17 (.p 5 0) (V8 0) (fun _ _ h=>h) (fun ρ a w3 hs3=>?_)
 exact ⟨(ρ 5,ca),rfl,hs3.lands_blk (k:=5) rfl rfl⟩
set_option maxRecDepth 100000 in
set_option maxHeartbeats 4000000 in
theorem mNew {n room:Nat} {w:World} (h0:n≤16) (h1:room≤1048576):Calls Tryz.prog 5 #[.int .i64 (n:Int),.int .i64 (room:Int)] w (fun e w'=>∃i:Nat×List Int,e = .returned (.tuple #[vP i.1,.int .u8 0])∧OrdOk n (iota n) i.2∧Lands (mgF ⟨i.1,n,room,iota n,i.2⟩ 1 0 (fun _=>none)) [] w w'):=by
 refine TTg (R:=emptyR) [V64 (n:Int),V64 (room:Int)] Tryz.func5 Tryz.ntmps5 rfl ?_
 refine TTa 0 ⟨[(0,V64 (n:Int)),(1,V64 (room:Int))],[]⟩ ?_
 refine TTe 1 [2] ?_
 refine RVc 2 13 (fun ρ=>[.int .i64 (n:Int),.int .i64 (room:Int)]) [] (fun ρ w1 F1 hF1 hpk1=>?_)
 refine (storeN h0 h1 hF1).mono ?_
 rintro e1 w'1 ⟨gs,rfl,hl1⟩
 refine ⟨.v (.tuple #[.pointer (some ⟨gs,0,none⟩),.int .u8 0]),_,rfl,hl1,?_⟩
 refine RVz ⟨[(0,V64 (n:Int)),(6,VP gs),(7,V8 0)],[]⟩ ?_
 refine TT.seq (TTa 0 ⟨[(0,V64 (n:Int)),(6,VP gs),(7,V8 0),(16,VB false)],[]⟩ ?_)
 refine TTu (TT.next ?_)
 refine TTa 0 ⟨[(0,V64 (n:Int)),(6,VP gs),(8,.p 2 0)],[(2,mgZb gs)]⟩ ?_
 refine TT.give 2 (b:=mgZb gs) (cs:=mgZ gs) (fun m=>⟨[(0,V64 (n:Int)),(6,VP gs),(8,VP m)],[]⟩) (by kernel_rfl) rfl (fun ρ=>mgZ_cells gs ρ) (fun _=>rfl) (fun m=>?_)
 refine TT.res (R':=sepR (blkR m tMg (mgZ gs)) (sepR (stR gs n room [] []) emptyR)) (fun _ _ h=>h) ?_
 refine TTe 2 [2,8] ?_
 refine RVc 2 14 (fun ρ=>[.int .i64 (n:Int)]) [] (fun ρ w2 F2 hF2 hpk2=>?_)
 refine (frame2x hF2 (fun X hX=>orderN h0 hX)).mono ?_
 rintro e2 w'2 ⟨⟨⟨go,ls⟩,hinv⟩,rfl,hl2⟩
 refine ⟨.v (.tuple #[.pointer (some ⟨go,0,none⟩),.int .u8 0]),sepR (blkR m tMg (mgZ gs)) (sepR (ordR go (iota n) ls) (sepR (stR gs n room [] []) emptyR)),rfl,hl2,?_⟩
 refine RVw 8 (.store 44 (.v (.pointer (some ⟨m,4,none⟩))) (VP go)) (fun ρ w F hF=>⟨_,.v undef,sepR (blkR m tMg ((mgZ gs).setIfInBounds 4 (vP go))) (sepR (ordR go (iota n) ls) (sepR (stR gs n room [] []) emptyR)),(blkR_st 4 (vP go) hF (by kernel_rfl) (by simp [mgZ_size]) rfl rfl).1,(blkR_st (t:=44) 4 (vP go) hF (by kernel_rfl) (by simp [mgZ_size]) rfl rfl).2,?_⟩)
 refine RVz ⟨[(6,VP gs),(8,VP m)],[]⟩ ?_
 refine TTe 2 [2,9] ?_
 refine RVc 2 15 (fun ρ=>[.pointer (some ⟨gs,0,none⟩),.int .i64 12]) [] (fun ρ w3 F3 hF3 hpk3=>?_)
 refine (frame2x hF3 (fun X hX=>applyN (o:=0) (x:=undef) (AnsA n []) hX)).mono ?_
 rintro e3 w'3 ⟨⟨o,ca⟩,rfl,hl3⟩
 refine ⟨.v (.tuple #[.pointer (some ⟨o,0,none⟩),.int .u8 0]),sepR (blkR m tMg ((mgZ gs).setIfInBounds 4 (vP go))) (sepR (blkR o 95 #[vP gs,vP ca]) (sepR (caR tCA tEA 9 Jb.cells ca 1 (AnsA n [])) (sepR (ordR go (iota n) ls) (sepR (stR gs n room [] []) emptyR)))),rfl,hl3,?_⟩
 refine RVw 9 (.store 39 (.v (.pointer (some ⟨m,0,none⟩))) (VP o)) (fun ρ w F hF=>⟨_,.v undef,sepR (blkR m tMg (((mgZ gs).setIfInBounds 4 (vP go)).setIfInBounds 0 (vP o))) (sepR (blkR o 95 #[vP gs,vP ca]) (sepR (caR tCA tEA 9 Jb.cells ca 1 (AnsA n [])) (sepR (ordR go (iota n) ls) (sepR (stR gs n room [] []) emptyR)))),(blkR_st 0 (vP o) hF (by kernel_rfl) (by simp [mgZ_size]) rfl rfl).1,(blkR_st (t:=39) 0 (vP o) hF (by kernel_rfl) (by simp [mgZ_size]) rfl rfl).2,?_⟩)
 refine RVz ⟨[(8,VP m)],[]⟩ ?_
 refine TTe 3 [5,6,13] ?_
 refine RVd 5 (.load 39 (.v (.pointer (some ⟨m,0,none⟩)))) (VP o) (fun ρ w F hF=>run_ld (by kernel_rfl) (by rw [(sepR_fst hF).choose_spec.2.cell];simp [mgZ_size];rfl)) ?_
 refine RVc 6 16 (fun ρ=>[.pointer (some ⟨o,0,none⟩),.int .i64 12]) [] (fun ρ w4 F4 hF4 hpk4=>?_)
 refine (frame2x hF4 (fun X hX=>quantN (AnsQ n []) hX (fun h=>(sepR_fst h).choose_spec.2))).mono ?_
 rintro e4 w'4 ⟨⟨qu,cq⟩,rfl,hl4⟩
 refine ⟨.v (.tuple #[.pointer (some ⟨qu,0,none⟩),.int .u8 0]),sepR (blkR m tMg (((mgZ gs).setIfInBounds 4 (vP go)).setIfInBounds 0 (vP o))) (sepR (blkR qu 104 #[vP o,vP gs,vP cq]) (sepR (caR tCQ tEQ 8 QJ.cells cq 1 (AnsQ n [])) (sepR (blkR o 95 #[vP gs,vP ca]) (sepR (caR tCA tEA 9 Jb.cells ca 1 (AnsA n [])) (sepR (ordR go (iota n) ls) (sepR (stR gs n room [] []) emptyR)))))),rfl,hl4,?_⟩
 refine RVw 13 (.store 40 (.v (.pointer (some ⟨m,1,none⟩))) (VP qu)) (fun ρ w F hF=>⟨_,.v undef,sepR (blkR m tMg ((((mgZ gs).setIfInBounds 4 (vP go)).setIfInBounds 0 (vP o)).setIfInBounds 1 (vP qu))) (sepR (blkR qu 104 #[vP o,vP gs,vP cq]) (sepR (caR tCQ tEQ 8 QJ.cells cq 1 (AnsQ n [])) (sepR (blkR o 95 #[vP gs,vP ca]) (sepR (caR tCA tEA 9 Jb.cells ca 1 (AnsA n [])) (sepR (ordR go (iota n) ls) (sepR (stR gs n room [] []) emptyR)))))),(blkR_st 1 (vP qu) hF (by kernel_rfl) (by simp [mgZ_size]) rfl rfl).1,(blkR_st (t:=40) 1 (vP qu) hF (by kernel_rfl) (by simp [mgZ_size]) rfl rfl).2,?_⟩)
 refine RVz ⟨[(8,VP m)],[]⟩ ?_
 refine TTe 3 [5,6,13] ?_
 refine RVd 5 (.load 39 (.v (.pointer (some ⟨m,0,none⟩)))) (VP o) (fun ρ w F hF=>run_ld (by kernel_rfl) (by rw [(sepR_fst hF).choose_spec.2.cell];simp [mgZ_size];rfl)) ?_
 refine RVc 6 17 (fun ρ=>[.pointer (some ⟨o,0,none⟩),.int .i64 12]) [] (fun ρ w5 F5 hF5 hpk5=>?_)
 refine (frame2x hF5 (fun X hX=>familyN (AnsF n []) hX (fun h=>(sepR_fst (sepR_snd (sepR_snd h).choose_spec).choose_spec).choose_spec.2))).mono ?_
 rintro e5 w'5 ⟨⟨gu,cf⟩,rfl,hl5⟩
 refine ⟨.v (.tuple #[.pointer (some ⟨gu,0,none⟩),.int .u8 0]),sepR (blkR m tMg ((((mgZ gs).setIfInBounds 4 (vP go)).setIfInBounds 0 (vP o)).setIfInBounds 1 (vP qu))) (sepR (blkR gu 111 #[vP o,vP gs,vP cf,.int .u8 0]) (sepR (caR tCF tEF 8 FJ.cells cf 1 (AnsF n [])) (sepR (blkR qu 104 #[vP o,vP gs,vP cq]) (sepR (caR tCQ tEQ 8 QJ.cells cq 1 (AnsQ n [])) (sepR (blkR o 95 #[vP gs,vP ca]) (sepR (caR tCA tEA 9 Jb.cells ca 1 (AnsA n [])) (sepR (ordR go (iota n) ls) (sepR (stR gs n room [] []) emptyR)))))))),rfl,hl5,?_⟩
 refine RVw 13 (.store 41 (.v (.pointer (some ⟨m,2,none⟩))) (VP gu)) (fun ρ w F hF=>⟨_,.v undef,sepR (blkR m tMg (((((mgZ gs).setIfInBounds 4 (vP go)).setIfInBounds 0 (vP o)).setIfInBounds 1 (vP qu)).setIfInBounds 2 (vP gu))) (sepR (blkR gu 111 #[vP o,vP gs,vP cf,.int .u8 0]) (sepR (caR tCF tEF 8 FJ.cells cf 1 (AnsF n [])) (sepR (blkR qu 104 #[vP o,vP gs,vP cq]) (sepR (caR tCQ tEQ 8 QJ.cells cq 1 (AnsQ n [])) (sepR (blkR o 95 #[vP gs,vP ca]) (sepR (caR tCA tEA 9 Jb.cells ca 1 (AnsA n [])) (sepR (ordR go (iota n) ls) (sepR (stR gs n room [] []) emptyR)))))))),(blkR_st 2 (vP gu) hF (by kernel_rfl) (by simp [mgZ_size]) rfl rfl).1,(blkR_st (t:=41) 2 (vP gu) hF (by kernel_rfl) (by simp [mgZ_size]) rfl rfl).2,?_⟩)
 refine RVz ⟨[(8,VP m)],[]⟩ ?_
 refine TTa 0 ⟨[(4,VP m),(5,V8 0)],[]⟩ ?_
 refine TTt Tryz.results5 (VP m) (V8 0) (fun _ _ h=>h) (fun ρ a w6 hs6=>?_)
 refine ⟨(m,ls),rfl,ordOk_iota h0 hinv,?_⟩
 rw [mgZ_all] at hs6
 exact (mgN_close hs6.lands).imp fun _ h=>⟨⟨ca,cq,cf,.int .u8 0⟩,⟨o,qu,gu,gs,go,fun _=>false,fun _=>(0,⟨0,0⟩)⟩,[],[],hdOk_none n,Nat.le_refl _,h⟩
end
end Go.Proofs.YtnlmlehcpngcgaaGreat
