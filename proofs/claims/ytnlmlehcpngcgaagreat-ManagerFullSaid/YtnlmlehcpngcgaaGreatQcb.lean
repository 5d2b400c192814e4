/- Contracts: meter's may, Weigh, Count; manager's Count. Plain facts: a variable's diagram wants a node; orders; handles that are all live. The statement's walk: ManagerFull; alive of ramagelaw30. -/
import Derived.Test.YtnlmlehcpngcgaaGreatQbj
import Derived.Test.YtnlmlehcpngcgaaGreatQby
import Derived.Test.YtnlmlehcpngcgaaGreatQbz
import Derived.Test.YtnlmlehcpngcgaaGreatQca
namespace Go.Proofs.YtnlmlehcpngcgaaGreat
set_option linter.unusedSimpArgs false
set_option linter.unusedVariables false
section
open Go.RowKit Go.Sort
def CntOut (R:Res) (x:Nat) (F:List Nat) (w:World) (e:Ending) (w':World):Prop:=∃(A:Option Addr) (n c:Nat),e = .returned (.tuple #[.slice A n c,.int .u8 0])∧NumIn (slW A n c (wl x)) A n c x∧Lands (sepR (slW A n c (wl x)) R) F w w'
theorem weigh_perm {r0 r1 r2 r3 r4 r5 R:Res} {W:World} {F:List Nat} (h:(sepR r0 (sepR r1 (sepR r2 (sepR r3 (sepR r4 (sepR r5 R)))))).at_ W F):(sepR r1 (sepR (sepR r5 r3) (sepR r0 (sepR r4 (sepR r2 R))))).at_ W F:=by
 have h:=sepR_swap h
 have h:=sepR_imp h (fun _ h=>h) (fun _ h=>sepR_imp h (fun _ h=>h) (fun _ h=>sepR_imp h (fun _ h=>h) (fun _ h=>sepR_imp h (fun _ h=>h) (fun _ h=>sepR_swap h))))
 have h:=sepR_imp h (fun _ h=>h) (fun _ h=>sepR_imp h (fun _ h=>h) (fun _ h=>sepR_imp h (fun _ h=>h) (fun _ h=>sepR_swap h)))
 have h:=sepR_imp h (fun _ h=>h) (fun _ h=>sepR_imp h (fun _ h=>h) (fun _ h=>sepR_swap h))
 have h:=sepR_imp h (fun _ h=>h) (fun _ h=>sepR_swap h)
 have h:=sepR_imp h (fun _ h=>h) (fun _ h=>sepR_imp h (fun _ h=>h) (fun _ h=>sepR_imp h (fun _ h=>h) (fun _ h=>sepR_swap h)))
 have h:=sepR_imp h (fun _ h=>h) (fun _ h=>sepR_imp h (fun _ h=>h) (fun _ h=>sepR_swap h))
 have h:=sepR_imp h (fun _ h=>h) (fun _ h=>sepR_imp h (fun _ h=>h) (fun _ h=>sepR_imp h (fun _ h=>h) (fun _ h=>sepR_imp h (fun _ h=>h) (fun _ h=>sepR_swap h))))
 exact sepR_imp h (fun _ h=>h) (fun _ h=>sepR_unassoc h)
theorem nums_cap {vs:List (Nat×Nat)} {W:World} {F:List Nat} (h:(numsR vs).at_ W F):∀p∈vs,1≤p.2:=fun p hp=>(h.2 p hp).2.1
theorem nums_caps {r1 r2 r4 R:Res} {vs7 vs8:List (Nat×Nat)} {W:World} {F:List Nat} (h:(sepR r1 (sepR r2 (sepR (numsR vs8) (sepR r4 (sepR (numsR vs7) R))))).at_ W F):(∀ p∈vs7,1≤p.2)∧∀p∈vs8,1≤p.2:=by
 have h3:=(sepR_snd (sepR_snd h).choose_spec).choose_spec
 exact ⟨nums_cap (sepR_fst (sepR_snd (sepR_snd h3).choose_spec).choose_spec).choose_spec,nums_cap (sepR_fst h3).choose_spec⟩
theorem slO_cell {b n k x y:Nat} {vs:List (Nat×Nat)} {W:World} {F:List Nat} (h:(slO (some ⟨b,0,none⟩) n n (vs.map some)).at_ W F) (hk:vs[k]? =some (x,y)):W.cell? ⟨b,0+k*1,none⟩=some (.slice (some ⟨x,0,none⟩) 1 y):=by
 have:=slR_get (s:=1) (enc:=encO) encO_len k (some (x,y)) h (by rw [List.getElem?_map,hk];rfl) 0 _ rfl
 rw [Nat.zero_add]
 exact this
theorem scO_new {R:Res} {sc g f q n b7 b8:Nat} {vs7 vs8:List (Nat×Nat)} (h7:vs7.length=n) (h8:vs8.length=n) (c7:∀p∈vs7,1≤p.2) (c8:∀p∈vs8,1≤p.2):ScO (sepR (numsR vs7) (numsR vs8)) (sepR (blkR sc 152 #[vP g,.int .u8 (f:Int),.slice (some ⟨b7,0,none⟩) n n,.slice (some ⟨b8,0,none⟩) n n,.map (some q)]) (sepR (slO (some ⟨b7,0,none⟩) n n (vs7.map some)) (sepR (slO (some ⟨b8,0,none⟩) n n (vs8.map some)) R))) sc g f q n b7 b8 vs7 vs8 where
 blk:=fun h=>(sepR_fst h).choose_spec.2
 lrow:=fun h hk=>slO_cell (sepR_fst (sepR_snd h).choose_spec).choose_spec hk
 hrow:=fun h hk=>slO_cell (sepR_fst (sepR_snd (sepR_snd h).choose_spec).choose_spec).choose_spec hk
 lnum:=fun hk=>(nums_num (List.mem_of_getElem? hk) (c7 _ (List.mem_of_getElem? hk))).left
 hnum:=fun hk=>(nums_num (List.mem_of_getElem? hk) (c8 _ (List.mem_of_getElem? hk))).right
theorem scIn_of {Rn Ro:Res} {sc g f q n bl bh:Nat} {vl vh:List (Nat×Nat)} (h:ScO Rn Ro sc g f q n bl bh vl vh) (h16:n≤16) (h7:vl.length=n) (h8:vh.length=n):ScIn (sepR Rn Ro) sc g f q n bl bh vl vh:=
 ⟨h16,h7,h8,fun hR=>h.blk (sepR_snd hR).choose_spec,fun hR=>h.lrow (sepR_snd hR).choose_spec,fun hR=>h.hrow (sepR_snd hR).choose_spec,fun hk=>(h.lnum hk).left,fun hk=>(h.hnum hk).left⟩
theorem dgsz_le {f n:Int}:∀{T:Dg} {l:Int},Ft f l T→Gd f n T→l≤n→dgsz T+1≤2^(n-l).toNat
 | .nil,l,_,_,_=>Nat.two_pow_pos _
 | .one t,l,_,_,_=>Nat.two_pow_pos _
 | .node tag top bot lo hi,l,hf,hg,hl=>by
  obtain ⟨⟨g1,g2,g3,g4⟩,g5,⟨g6,g7⟩,⟨g8,g9⟩,g10⟩:=hg
  have h1:=dgsz_le g6 g7 (by omega)
  have h2:=dgsz_le g8 g9 (by omega)
  have hft:=hf.1
  have e2:2^(n-(bot+1)).toNat+2^(n-(bot+1)).toNat=2^((n-(bot+1)).toNat+1):=by rw [Nat.pow_succ];omega
  have e3:2^((n-(bot+1)).toNat+1)≤2^(n-l).toNat:=Nat.pow_le_pow_right (by decide) (by omega)
  unfold dgsz
  omega
theorem mgT_store {c:Cfg} {d:MgD} {ek:Nat} {M:Mg} {cs:List (Option Rec)} {free:List Int} {W:World} {X:List Nat} (h:(mgT c d ek M cs free).at_ W X):∃Y,StoreAt W Y M.st c.n c.room cs free:=by
 obtain ⟨F1,F2,_,h1,_⟩:=mgT_open h
 exact ⟨F1,h1.1⟩
set_option maxRecDepth 100000 in
set_option maxHeartbeats 4000000 in
theorem mayM {R:Res} {F:List Nat} {w:World} {g n room:Nat} {cs:List (Option Rec)} {free:List Int} {f et ep:Int} (h:R.at_ w F) (hSt:∀{W:World} {X:List Nat},R.at_ W X→∃Y,StoreAt W Y g n room cs free) (hf:0≤f∧f≤255) (hwf:Edg.Wf ⟨et,ep⟩) (hm:mayC cs n f ⟨et,ep⟩ 0=0):Calls Tryz.prog 61 #[.pointer (some ⟨g,0,none⟩),.int .u8 f,Ed et ep] w (Says (.int .u8 0) R F w):=by
 refine TTg [VP g,V8 f,.v (Ed et ep)] Tryz.func61 Tryz.ntmps61 h ?_
 refine TTa 0 ⟨[(0,VP g),(1,V8 f),(5,.p 0 0)],[(0,⟨48,false,[V8 et,V32 ep]⟩)]⟩ ?_
 refine TTE 1 false [3] 10 ?_
 refine RVc 3 81 (fun ρ=>[.pointer (some ⟨g,0,none⟩),.int .u8 f,Ed et ep,.int .i64 0]) [] (fun ρ w1 F1 hF1 hpk1=>?_)
 obtain ⟨Y,hY⟩:=hSt hF1
 refine (canSize_any Y g n room cs free f ⟨et,ep⟩ 0 w1 hY hf hwf).mono ?_
 rintro e1 w'1 ⟨⟨h1,_⟩|⟨_,V,hV,rfl⟩,hb1⟩
 ·exact absurd hm h1
 refine ⟨.v (.tuple #[.int .i64 (V.length:Int),.int .u8 0]),_,rfl,.of_below hF1 hb1,?_⟩
 refine RVz ⟨[(8,V8 0)],[]⟩ ?_
 refine TTa 0 ⟨[(6,V8 0)],[]⟩ ?_
 refine TTs Tryz.results61 (V8 0) (fun _ _ h=>h) (fun ρ a w2 hs2=>?_)
 exact ⟨rfl,hs2.lands⟩
set_option maxRecDepth 100000 in
set_option maxHeartbeats 4000000 in
theorem weighM {R:Res} {F:List Nat} {w:World} {g n room f bo:Nat} {cs:List (Option Rec)} {free:List Int} {et ep:Int} {T:Dg} (h:R.at_ w F) (hSt:∀{W:World} {X:List Nat},R.at_ W X→∃Y,StoreAt W Y g n room cs free) (hcs:cs.length≤1048576) (h1:1≤n) (h16:n≤16) (hfb:1≤f∧f≤5) (hf3:¬f=3) (hwf:Edg.Wf ⟨et,ep⟩) (hm:mayC cs n f ⟨et,ep⟩ 0=0) (hu:Unf cs f ⟨et,ep⟩ T) (hft:Ft f 0 T) (hgd:Gd f n T) (hr:∀{W:World} {F:List Nat},R.at_ W F→RowF UN 0 W W.heap.size (some ⟨bo,0,none⟩) (List.replicate n 1)):Calls Tryz.prog 51 #[.pointer (some ⟨g,0,none⟩),.int .u8 (f:Int),Ed et ep,.slice (some ⟨bo,0,none⟩) n n,.slice (some ⟨bo,0,none⟩) n n] w (CntOut R (edD f n 0 T) F w):=by
 have hnn:((n:Int) != (n:Int))=false:=by simp
 refine TTg [VP g,V8 (f:Int),.v (Ed et ep),.v (.slice (some ⟨bo,0,none⟩) n n),.v (.slice (some ⟨bo,0,none⟩) n n)] Tryz.func51 Tryz.ntmps51 h ?_
 refine TTa 0 ⟨[(0,VP g),(1,V8 (f:Int)),(3,.v (.slice (some ⟨bo,0,none⟩) n n)),(4,.v (.slice (some ⟨bo,0,none⟩) n n)),(7,.p 0 0)],[(0,⟨48,false,[V8 et,V32 ep]⟩)]⟩ ?_
 refine TT.seq (TTE 1 false [3] 10 ?_)
 refine RVc 3 61 (fun ρ=>[.pointer (some ⟨g,0,none⟩),.int .u8 (f:Int),Ed et ep]) [] (fun ρ w1 F1 hF1 hpk1=>?_)
 refine (mayM hF1 hSt (by omega) hwf hm).mono ?_
 rintro e1 w'1 ⟨rfl,hl1⟩
 refine ⟨V8 0,_,rfl,hl1,?_⟩
 refine RVz ⟨[(0,VP g),(1,V8 (f:Int)),(3,.v (.slice (some ⟨bo,0,none⟩) n n)),(4,.v (.slice (some ⟨bo,0,none⟩) n n)),(7,.p 0 0),(12,V8 0)],[(0,⟨48,false,[V8 et,V32 ep]⟩)]⟩ ?_
 refine TTa 10 ⟨[(0,VP g),(1,V8 (f:Int)),(3,.v (.slice (some ⟨bo,0,none⟩) n n)),(4,.v (.slice (some ⟨bo,0,none⟩) n n)),(7,.p 0 0),(12,V8 0),(19,VB false)],[(0,⟨48,false,[V8 et,V32 ep]⟩)]⟩ ?_
 refine TTu (TT.next ?_)
 refine TT.seq (TTE 4 false [3,4,9,10] 10 ?_)
 refine RVc 3 45 (fun ρ=>[.pointer (some ⟨g,0,none⟩)]) [] (fun ρ w2 F2 hF2 hpk2=>?_)
 refine (stVars hF2 hSt).mono ?_
 rintro e2 w'2 ⟨rfl,hl2⟩
 refine ⟨V64 (n:Int),_,rfl,hl2,?_⟩
 refine RVp 4 (.bool ((n:Int) != (n:Int))) (.bool false) (by rw [hnn]) ?_
 refine RVc 9 45 (fun ρ=>[.pointer (some ⟨g,0,none⟩)]) [] (fun ρ w3 F3 hF3 hpk3=>?_)
 refine (stVars hF3 hSt).mono ?_
 rintro e3 w'3 ⟨rfl,hl3⟩
 refine ⟨V64 (n:Int),_,rfl,hl3,?_⟩
 refine RVp 10 (.bool ((n:Int) != (n:Int))) (.bool false) (by rw [hnn]) ?_
 refine RVz ⟨[(0,VP g),(1,V8 (f:Int)),(3,.v (.slice (some ⟨bo,0,none⟩) n n)),(4,.v (.slice (some ⟨bo,0,none⟩) n n)),(7,.p 0 0),(32,VB false)],[(0,⟨48,false,[V8 et,V32 ep]⟩)]⟩ ?_
 refine TTu (TT.next ?_)
 refine TTE 3 false [3,5,6] 10 ?_
 refine RVc 3 62 (fun ρ=>[.slice (some ⟨bo,0,none⟩) n n]) [] (fun ρ w4 F4 hF4 hpk4=>?_)
 refine (numbersM hF4 h1 h16 (fun h=>hr h)).mono ?_
 rintro e4 w'4 ⟨⟨b7,vs7⟩,⟨hv7,rfl⟩,hl4⟩
 refine ⟨.v (.slice (some ⟨b7,0,none⟩) n n),_,rfl,hl4,?_⟩
 refine RVc 5 62 (fun ρ=>[.slice (some ⟨bo,0,none⟩) n n]) [] (fun ρ w5 F5 hF5 hpk5=>?_)
 refine (numbersM hF5 h1 h16 (fun h=>hr (sepR_snd (sepR_snd h).choose_spec).choose_spec)).mono ?_
 rintro e5 w'5 ⟨⟨b8,vs8⟩,⟨hv8,rfl⟩,hl5⟩
 refine ⟨.v (.slice (some ⟨b8,0,none⟩) n n),_,rfl,hl5,?_⟩
 refine RVw 6 (.mkmap 150) (fun ρ w F hF=>?_)
 obtain ⟨hrun,hl⟩:=kept_new hF
 generalize w.heap.size=q at hrun hl
 refine ⟨_,.v (.map (some q)),_,hrun,hl,?_⟩
 refine RVz ⟨[(7,.p 0 0),(13,.p 18 0)],[(0,⟨48,false,[V8 et,V32 ep]⟩),(18,⟨152,false,[VP g,V8 (f:Int),.v (.slice (some ⟨b7,0,none⟩) n n),.v (.slice (some ⟨b8,0,none⟩) n n),.v (.map (some q))]⟩)]⟩ ?_
 refine TT.know ((∀ p∈vs7,1≤p.2)∧∀p∈vs8,1≤p.2) (fun W F h=>nums_caps h) (fun hcc=>?_)
 obtain ⟨hc7,hc8⟩:=hcc
 refine TT.give 18 (b:=⟨152,false,[VP g,V8 (f:Int),.v (.slice (some ⟨b7,0,none⟩) n n),.v (.slice (some ⟨b8,0,none⟩) n n),.v (.map (some q))]⟩) (cs:= #[.pointer (some ⟨g,0,none⟩),.int .u8 (f:Int),.slice (some ⟨b7,0,none⟩) n n,.slice (some ⟨b8,0,none⟩) n n,.map (some q)]) (fun sc=>⟨[(7,.p 0 0),(13,VP sc)],[(0,⟨48,false,[V8 et,V32 ep]⟩)]⟩) (by kernel_rfl) rfl (fun _=>rfl) (fun _=>rfl) (fun sc=>?_)
 refine TT.res (R':=sepR (keptR q 0 []) (sepR (sepR (numsR vs7) (numsR vs8)) (sepR (blkR sc 152 #[vP g,.int .u8 (f:Int),.slice (some ⟨b7,0,none⟩) n n,.slice (some ⟨b8,0,none⟩) n n,.map (some q)]) (sepR (slO (some ⟨b7,0,none⟩) n n (vs7.map some)) (sepR (slO (some ⟨b8,0,none⟩) n n (vs8.map some)) R))))) (fun W F h=>weigh_perm h) ?_
 have hO:ScO (sepR (numsR vs7) (numsR vs8)) (sepR (blkR sc 152 #[vP g,.int .u8 (f:Int),.slice (some ⟨b7,0,none⟩) n n,.slice (some ⟨b8,0,none⟩) n n,.map (some q)]) (sepR (slO (some ⟨b7,0,none⟩) n n (vs7.map some)) (sepR (slO (some ⟨b8,0,none⟩) n n (vs8.map some)) R))) sc g f q n b7 b8 vs7 vs8:=scO_new hv7 hv8 hc7 hc8
 refine TTE 2 false [1,2] 10 ?_
 refine RVc 1 64 (fun ρ=>[.pointer (some ⟨sc,0,none⟩),Ed et ep,.int .i64 0]) [] (fun ρ w6 F6 hF6 hpk6=>?_)
 refine (edgeM (scIn_of hO h16 hv7 hv8) hO hf3 (fun h=>hSt (sepR_snd (sepR_snd (sepR_snd (sepR_snd h).choose_spec).choose_spec).choose_spec).choose_spec) hcs T 0 et ep 0 [] _ _ hF6 (fun en he=>by cases he) hu hft hgd (Int.le_refl 0) (by omega) (by have:=dgsz_le hft hgd (by omega);have:=pow16 (a:=(n:Int)-0) (by omega);unfold maxLen;omega)).mono ?_
 rintro e6 w'6 ⟨⟨N2,L2,A8,n8,c8⟩,⟨hN2,hG2,rfl,hx8⟩,hl6⟩
 refine ⟨.v (.slice A8 n8 c8),_,rfl,hl6,?_⟩
 refine RVc 2 63 (fun ρ=>[.slice A8 n8 c8]) [] (fun ρ w7 F7 hF7 hpk7=>?_)
 refine (normN hF7 hx8.left).mono ?_
 rintro e7 w'7 ⟨A9,n9,c9,rfl,hN9,hl7⟩
 refine ⟨.v (.slice A9 n9 c9),_,rfl,hl7,?_⟩
 refine RVz ⟨[(10,.v (.slice A9 n9 c9)),(11,V8 0)],[]⟩ ?_
 refine TTt Tryz.results51 (.v (.slice A9 n9 c9)) (V8 0) (fun _ _ h=>h) (fun ρ a w8 hs8=>?_)
 exact ⟨A9,n9,c9,rfl,hN9,hs8.lands.drop2.drop2.drop2.drop2.drop2.drop2⟩
set_option maxRecDepth 100000 in
set_option maxHeartbeats 4000000 in
theorem countM {R:Res} {F:List Nat} {w:World} {g n room f:Nat} {cs:List (Option Rec)} {free:List Int} {et ep:Int} {T:Dg} (h:R.at_ w F) (hSt:∀{W:World} {X:List Nat},R.at_ W X→∃Y,StoreAt W Y g n room cs free) (hcs:cs.length≤1048576) (h1:1≤n) (h16:n≤16) (hfb:1≤f∧f≤5) (hf3:¬f=3) (hwf:Edg.Wf ⟨et,ep⟩) (hm:mayC cs n f ⟨et,ep⟩ 0=0) (hu:Unf cs f ⟨et,ep⟩ T) (hft:Ft f 0 T) (hgd:Gd f n T):Calls Tryz.prog 30 #[.pointer (some ⟨g,0,none⟩),.int .u8 (f:Int),Ed et ep] w (CntOut R (edD f n 0 T) F w):=by
 refine TTg [VP g,V8 (f:Int),.v (Ed et ep)] Tryz.func30 Tryz.ntmps30 h ?_
 refine TTa 0 ⟨[(0,VP g),(1,V8 (f:Int)),(5,.p 0 0)],[(0,⟨48,false,[V8 et,V32 ep]⟩)]⟩ ?_
 refine TTE 2 false [1,2] 10 ?_
 refine RVc 1 45 (fun ρ=>[.pointer (some ⟨g,0,none⟩)]) [] (fun ρ w1 F1 hF1 hpk1=>?_)
 refine (stVars hF1 hSt).mono ?_
 rintro e1 w'1 ⟨rfl,hl1⟩
 refine ⟨V64 (n:Int),_,rfl,hl1,?_⟩
 refine RVc 2 50 (fun ρ=>[.int .u64 1,.int .i64 (n:Int)]) [] (fun ρ w2 F2 hF2 hpk2=>?_)
 refine (sameM_ones hF2 h1 h16).mono ?_
 rintro e2 w'2 ⟨bo,rfl,hl2⟩
 refine ⟨.v (.slice (some ⟨bo,0,none⟩) n n),_,rfl,hl2,?_⟩
 refine RVz ⟨[(0,VP g),(1,V8 (f:Int)),(5,.p 0 0),(8,.v (.slice (some ⟨bo,0,none⟩) n n))],[(0,⟨48,false,[V8 et,V32 ep]⟩)]⟩ ?_
 refine TTE 1 false [5] 10 ?_
 refine RVc 5 51 (fun ρ=>[.pointer (some ⟨g,0,none⟩),.int .u8 (f:Int),Ed et ep,.slice (some ⟨bo,0,none⟩) n n,.slice (some ⟨bo,0,none⟩) n n]) [] (fun ρ w3 F3 hF3 hpk3=>?_)
 refine (weighM hF3 (fun h=>hSt (sepR_snd h).choose_spec) hcs h1 h16 hfb hf3 hwf hm hu hft hgd (fun h=>slW_row (sepR_fst h).choose_spec)).mono ?_
 rintro e3 w'3 ⟨A9,n9,c9,rfl,hN9,hl3⟩
 refine ⟨.v (.tuple #[.slice A9 n9 c9,.int .u8 0]),_,rfl,hl3,?_⟩
 refine RVz ⟨[(6,.v (.slice A9 n9 c9)),(7,V8 0)],[]⟩ ?_
 refine TTt Tryz.results30 (.v (.slice A9 n9 c9)) (V8 0) (fun _ _ h=>h) (fun ρ a w4 hs4=>?_)
 exact ⟨A9,n9,c9,rfl,hN9,hs4.lands.drop2⟩
set_option maxRecDepth 100000 in
set_option maxHeartbeats 4000000 in
theorem mCount_ok {c:Cfg} {ek b a0 f:Nat} {H:Hs} {t:BT} {w:World} {F:List Nat} (ha1:1≤a0) (ha:a0≤256) (hHa:H a0=some ((f:Int),t)) (h1:1≤c.n) (hf3:¬f=3) (h:(mgF c ek b H).at_ w F) :
  Calls Tryz.prog 12 #[vP c.m,.int .i64 (a0:Int)] w (Says (.tuple #[.int .i64 ((edD f c.n 0 (can f c.n 0 t):Nat):Int),.int .u8 0]) (mgF c ek b H) F w):=by
 obtain ⟨d,M,cs,free,hH,hb,h⟩:=h
 have hsm:=hH.same_one ha1 ha hHa
 obtain ⟨hroot,hff,hdep,hE⟩:=hH.ed a0 f t ha hHa
 have hok:=(mgT_ok h).1
 have hcg:=can_good (n:=(c.n:Int)) hff t 0 c.n hdep (by omega) (Int.le_refl 0)
 have hwf:=hE.wf hok hff hdep (by omega) (Int.le_refl 0)
 have hld:=isE_leads hok hff hdep (by omega) (Int.le_refl 0) hE
 have hmay:mayC cs c.n f ⟨(M.root a0).2.tag,(M.root a0).2.pos⟩ 0=0:=by
  unfold mayC
  rw [if_neg (fun hn=>hn hff),if_neg (by omega),if_pos hld]
 have hle:=edD_le hcg.1 hcg.2 (by omega)
 have hp:=pow16 (a:=(c.n:Int)-0) (by have:=hok.n16;omega)
 have hwrap:IntKind.i64.wrap ((edD f c.n 0 (can f c.n 0 t):Nat):Int)=((edD f c.n 0 (can f c.n 0 t):Nat):Int):=IntWalk.i64_in _ (by omega)
 refine TTg [VP c.m,V64 (a0:Int)] Tryz.func12 Tryz.ntmps12 h ?_
 refine TTa 0 ⟨[(0,VP c.m),(1,V64 (a0:Int))],[]⟩ ?_
 refine TTe 2 [2,3] ?_
 refine RV.bs (α:=Int) (s:=1) (enc:=fun x:Int=>[.int .i64 x]) (E:=3) 2 85 1 [(0,.int .i64 (a0:Int))] #[.int .i64 (a0:Int)] [(a0:Int)] (by kernel_rfl) (by kernel_rfl) (by kernel_rfl) (by kernel_rfl) rfl rfl (by decide) (fun _=>rfl) (fun A1=>?_)
 refine RVc 3 24 (fun ρ=>[.pointer (some ⟨c.m,0,none⟩),.slice A1 1 1]) [] (fun ρ w1 F1 hF1 hpk1=>?_)
 refine (sameL hF1 hsm).mono ?_
 rintro e1 w'1 ⟨rfl,hl1⟩
 refine ⟨.v (.tuple #[.int .u8 (f:Int),.int .u8 0]),_,rfl,hl1,?_⟩
 refine RVz ⟨[(0,VP c.m),(1,V64 (a0:Int)),(6,V8 (f:Int)),(7,V8 0)],[]⟩ ?_
 refine TT.seq (TTa 0 ⟨[(0,VP c.m),(1,V64 (a0:Int)),(6,V8 (f:Int)),(7,V8 0),(17,VB false)],[]⟩ ?_)
 refine TTu (TT.next ?_)
 refine TTE 4 true [3,9,11,12] 0 ?_
 refine RVd 3 (.load 36 (.v (.pointer (some ⟨c.m,3,none⟩)))) (VP M.st) (fun ρ w F hF=>mg_ldP 3 (by omega) _ rfl (by kernel_rfl) (mgT_blks hF).2.2.2) ?_
 refine RVd 9 (.idx 51 (.v (.pointer (some ⟨c.m,262,none⟩))) (V64 (a0:Int))) (.v (.pointer (some ⟨c.m,262+a0*3,none⟩))) (fun ρ w F hF=>mg_ixR (by omega)) ?_
 refine RVd 11 (.load 48 (.v (.pointer (some ⟨c.m,262+a0*3+1,none⟩)))) (.v (Ed ((M.root a0).2.tag) ((M.root a0).2.pos))) (fun ρ w F hF=>mg_ldE (by omega) (mgT_blks hF).2.2.2) ?_
 refine RVc 12 30 (fun ρ=>[.pointer (some ⟨M.st,0,none⟩),.int .u8 (f:Int),Ed ((M.root a0).2.tag) ((M.root a0).2.pos)]) [] (fun ρ w2 F2 hF2 hpk2=>?_)
 refine (countM hF2 mgT_store (Nat.le_trans hok.len hok.room20) h1 hok.n16 (by omega) hf3 hwf hmay hE hcg.1 hcg.2).mono ?_
 rintro e2 w'2 ⟨A9,n9,c9,rfl,hN9,hl2⟩
 by_cases hx:edD f c.n 0 (can f c.n 0 t)=0
 ·obtain rfl:n9=0:=by rw [hN9.len,hx];rfl
  refine ⟨.v (.tuple #[.slice A9 0 c9,.int .u8 0]),_,rfl,hl2,?_⟩
  refine RVz ⟨[(7,V8 0),(8,.v (.slice A9 0 c9))],[]⟩ ?_
  refine TT.seq (TTa 0 ⟨[(7,V8 0),(8,.v (.slice A9 0 c9)),(41,VB true)],[]⟩ ?_)
  refine TTy ?_
  refine TTa 0 ⟨[(4,V64 0),(5,V8 0)],[]⟩ ?_
  refine TTt Tryz.results12 (V64 0) (V8 0) (fun _ _ h=>h) (fun ρ a w3 hs3=>?_)
  exact ⟨by rw [hx];rfl,hs3.lands.drop.imp (fun _ h=>mgF_of h hH hb)⟩
 ·obtain ⟨b9,rfl⟩:=hN9.hd hx
  obtain rfl:n9=1:=by rw [hN9.len,wl_pos hx];rfl
  refine ⟨.v (.tuple #[.slice (some ⟨b9,0,none⟩) 1 c9,.int .u8 0]),_,rfl,hl2,?_⟩
  refine RVz ⟨[(7,V8 0),(8,.v (.slice (some ⟨b9,0,none⟩) 1 c9))],[]⟩ ?_
  refine TT.seq (TTa 0 ⟨[(7,V8 0),(8,.v (.slice (some ⟨b9,0,none⟩) 1 c9)),(41,VB false)],[]⟩ ?_)
  refine TTu (TT.next ?_)
  refine TTe 2 [1,2] ?_
  refine RVd 1 (.idx 70 (.v (.slice (some ⟨b9,0,none⟩) 1 c9)) (V64 0)) (.v (.pointer (some ⟨b9,0+0*1,none⟩))) (fun ρ w F hF=>run_ixS (e:=73) (s:=1) (off:=0) 0 (by kernel_rfl) (by kernel_rfl) (by decide)) ?_
  refine RVd 2 (.load 73 (.v (.pointer (some ⟨b9,0+0*1,none⟩)))) (VU ((edD f c.n 0 (can f c.n 0 t):Nat):Int)) (fun ρ w F hF=>run_ld (by kernel_rfl) (row_at (wl_pos hx▸hN9.row (sepR_fst hF).choose_spec) (i:=0) rfl)) ?_
  refine RVz ⟨[(4,V64 (IntKind.i64.wrap ((edD f c.n 0 (can f c.n 0 t):Nat):Int))),(5,V8 0)],[]⟩ ?_
  rw [hwrap]
  refine TTt Tryz.results12 (V64 ((edD f c.n 0 (can f c.n 0 t):Nat):Int)) (V8 0) (fun _ _ h=>h) (fun ρ a w4 hs4=>?_)
  exact ⟨rfl,hs4.lands.drop.imp (fun _ h=>mgF_of h hH hb)⟩
def zeroT:BT→Bool
 | .leaf b=>b
 | .br a _=>zeroT a
theorem zeroT_zeros:∀m,zeroT (.zeros m)=false
 | 0=>rfl
 | m+1=>zeroT_zeros m
theorem can_one {f n:Int} (hf:1≤f∧f≤5):∀(x:BT) (l t:Int) (m:Nat),x.Dep m→l+m=n→0≤l→can f n l x = .one t→zeroT x=true
 | .leaf false,l,t,m,hx,hl,h0,h=>by
  unfold can at h
  cases h
 | .leaf true,l,t,m,hx,hl,h0,h=>rfl
 | .br a b,l,t,m,hx,hl,h0,h=>by
  obtain ⟨k,rfl,ha,hb⟩:=hx
  have hv:=view_can (f:=f) (n:=n) (l:=l) hf ha hb hl h0
  rw [h] at hv
  have h1:∃t',can f n (l+1) a = .one t':=by
   have:=congrArg Prod.fst hv
   unfold viewT at this
   simp only at this
   by_cases h1:f=1
   ·rw [if_pos h1] at this;exact ⟨_,this.symm⟩
   ·by_cases h2:f=2
    ·rw [if_neg h1,if_pos h2] at this;exact ⟨_,this.symm⟩
    ·by_cases h3:f=3
     ·rw [if_neg h1,if_neg h2,if_pos h3] at this;exact ⟨_,this.symm⟩
     ·by_cases h4:f=4
      ·rw [if_neg h1,if_neg h2,if_neg h3,if_pos h4] at this;exact ⟨_,this.symm⟩
      ·rw [if_neg h1,if_neg h2,if_neg h3,if_neg h4] at this
       by_cases h5:Dg.one t=Dg.nil∨l<(Dg.one t).tag
       ·rw [if_pos h5] at this;exact ⟨_,this.symm⟩
       ·rw [if_neg h5] at this;exact ⟨_,this.symm⟩
  obtain ⟨t',h1⟩:=h1
  exact can_one hf a (l+1) t' k ha (by omega) (by omega) h1
theorem zeroT_cube (a k:Nat):∀m l,zeroT (cubeT a 0 l m)=true→l≤k→k<l+m→a.testBit k=false
 | 0,l,h,h1,h2=>by omega
 | m+1,l,h,h1,h2=>by
  rw [cubeT_succ] at h
  unfold zeroT at h
  by_cases hb:a.testBit l=true
  ·rw [if_pos hb,zeroT_zeros] at h
   cases h
  ·rw [if_neg hb] at h
   by_cases e:l=k
   ·subst e
    simpa using hb
   ·exact zeroT_cube a k m (l+1) h (by omega) (by omega)
theorem cube_ne (a k:Nat) (ha:∀j,j≠k→a.testBit j=false):∀m l,cubeT a 0 l m≠ .zeros m
 | 0,l=>by
  unfold cubeT BT.zeros
  intro h
  cases h
 | m+1,l=>by
  rw [cubeT_succ]
  intro h
  unfold BT.zeros at h
  injection h with h1 h2
  rw [Nat.zero_testBit,if_neg (by decide)] at h2
  exact cube_ne a k ha m (l+1) h2
theorem pow_bit {k j:Nat} (h:j≠k):(1*2^k).testBit j=false:=by
 rw [Nat.one_mul,Nat.testBit_two_pow]
 simp
 omega
theorem pow_bit1 {k:Nat}:(1*2^k).testBit k=true:=by
 rw [Nat.one_mul,Nat.testBit_two_pow]
 simp
theorem var_node {f:Int} {n k:Nat} {e:Edg} (hf:1≤f∧f≤5) (hk:k<n) (h:IsE [] f n e 0 (cubeT (1*2^k) 0 0 n)):False:=by
 unfold IsE at h
 cases hc:can f n 0 (cubeT (1*2^k) 0 0 n) with
 | nil=>
  have:=(can_nil hf (cubeT_dep _ _ 0 n) (by omega) (Int.le_refl 0)).1 hc
  exact cube_ne _ k (fun j hj=>pow_bit hj) n 0 this
 | one t=>
  have h1:=can_one hf _ 0 t n (cubeT_dep _ _ 0 n) (by omega) (Int.le_refl 0) hc
  have h2:=zeroT_cube _ k n 0 h1 (by omega) (by omega)
  rw [pow_bit1] at h2
  cases h2
 | node tag top bot lo hi=>
  rw [hc] at h
  obtain ⟨_,r,hr,_⟩:=h
  rw [recAt_nil] at hr
  cases hr
theorem mgF_novar {c:Cfg} {ek b a k:Nat} {H:Hs} {f:Int} {w w':World} {F:List Nat} (hf:1≤f∧f≤5) (hk:k<c.n) (ha:a≤256) (h0:c.room=0) (h:Lands (mgF c ek b (H.put a (some (f,cubeT (1*2^k) 0 0 c.n)))) F w w'):False:=by
 obtain ⟨F',⟨d,M,cs,free,hH,hb,hT⟩,_⟩:=h
 have hok:=(mgT_ok hT).1
 obtain rfl:cs=[]:=List.length_eq_zero_iff.1 (by have:=hok.len;omega)
 have:=(hH.ed a f _ ha (by unfold Hs.put;rw [if_pos rfl])).2.2.2
 exact var_node hf hk this
theorem lvN_iota {n k:Nat} {ls:List Int} (h:InvOf (iota n) ls) (hk:k<n):lvN ls k=k:=by
 have h1:=h.2 k (by rw [iota_length];omega)
 rw [iota_get hk,Int.toNat_natCast] at h1
 have hl:ls.length=n:=by rw [h.1,iota_length]
 unfold lvN atI
 rw [if_pos (by omega),Int.toNat_natCast,h1]
 omega
def filH (v:Int×BT) (k:Nat):Hs:=fun i=>if 1≤i∧i<k then some v else none
theorem filH_one (v:Int×BT):filH v 1=fun _=>none:=by
 funext i
 unfold filH
 rw [if_neg (by omega)]
theorem filH_put (v:Int×BT) {k:Nat} (h:1≤k):(filH v k).put k (some v)=filH v (k+1):=by
 funext i
 unfold Hs.put filH
 by_cases e:i=k
 ·rw [if_pos e,if_pos (by omega)]
 ·rw [if_neg e]
  by_cases h2:1≤i∧i<k
  ·rw [if_pos h2,if_pos (by omega)]
  ·rw [if_neg h2,if_neg (by omega)]
theorem filH_least {v:Int×BT} {k a:Nat} (hk:1≤k) (h:Least (filH v k) a):a=k:=by
 have h1:=h.free
 unfold filH at h1
 by_cases h2:1≤a∧a<k
 ·rw [if_pos h2] at h1
  cases h1
 ·rcases Nat.lt_or_ge k a with h3|h3
  ·have:=h.live k hk h3
   unfold filH at this
   rw [if_neg (by omega)] at this
   exact absurd rfl this
  ·have:=h.one
   omega
theorem filH_full {v:Int×BT}:∀k,1≤k→k≤256→filH v 257 k≠none:=fun k h1 h2=>by
 unfold filH
 rw [if_pos (by omega)]
 simp
theorem drop_least {v:Int×BT} {d a:Nat} (h1:1≤d) (h2:d≤256) (h:Least ((filH v 257).put d none) a):a=d:=by
 have hf:=h.free
 unfold Hs.put at hf
 by_cases e:a=d
 ·exact e
 ·rw [if_neg e] at hf
  exact absurd hf (filH_full a h.one h.most)
theorem run_rem256 {t:TypeId} {d:Nat} (w:World):(binOp .rem t (.int .i64 (d:Int)) (.int .i64 256)).run Tryz.prog w = .ok (.int .i64 ((d%256:Nat):Int)) w:=by
 simp [binOp,Op.intDiv]
 exact Int.tmod_eq_emod_of_nonneg (by omega)
theorem Lands.below {A:Res} {w w':World} (h:Lands A [] w w'):Below w.heap.size w w':=by
 obtain ⟨F',_,_,hc⟩:=h
 exact hc.below (Nat.le_refl _) (fun x hx=>by cases hx)
def SaysT (w:World) (e:Ending) (w':World):Prop:=e = .returned (.bool true)∧Below w.heap.size w w'
theorem Least.is {H:Hs} {a n:Nat} (h:Least H a) (h1:1≤n) (hn:H n=none) (hl:∀k,1≤k→k<n→H k≠none):a=n:=by
 rcases Nat.lt_trichotomy a n with h2|h2|h2
 ·exact absurd h.free (hl a h.one h2)
 ·exact h2
 ·exact absurd hn (h.live n h1 h2)
set_option maxRecDepth 100000 in
set_option maxHeartbeats 4000000 in
theorem alive30 (w:World):Calls Tryz.prog 4 #[] w (SaysT w):=by
 refine TTg (R:=emptyR) [] Tryz.func4 Tryz.ntmps4 rfl ?_
 refine TTa 0 ⟨[],[]⟩ ?_
 refine TTe 1 [0] ?_
 refine RVc 0 5 (fun ρ=>[.int .i64 2,.int .i64 100]) [] (fun ρ w1 F1 hF1 hpk1=>?_)
 obtain rfl:F1=[]:=hF1
 refine (mNew (n:=2) (room:=100) (w:=w1) (by decide) (by decide)).mono ?_
 rintro e1 w'1 ⟨⟨m,ls⟩,rfl,hO,hl1⟩
 have h0:lvN ls 0=0:=lvN_iota (k:=0) hO.inv (by decide)
 have h1:lvN ls 1=1:=lvN_iota (k:=1) hO.inv (by decide)
 have hval:edD ((1:Nat):Int) ((2:Nat):Int) 0 (can ((1:Nat):Int) ((2:Nat):Int) 0 (ap2 (8:Int).toNat (cubeT (1*2^lvN ls 0) 0 0 2) (cubeT (1*2^lvN ls 1) 0 0 2)))=1:=by rw [h0,h1];decide
 refine ⟨.v (.tuple #[.pointer (some ⟨m,0,none⟩),.int .u8 0]),_,rfl,hl1,?_⟩
 refine RVz ⟨[(1,VP m),(2,V8 0)],[]⟩ ?_
 refine TT.seq (TTa 0 ⟨[(1,VP m),(17,VB false)],[]⟩ ?_)
 refine TTu (TT.next ?_)
 refine TTe 1 [1] ?_
 refine RVc 1 9 (fun ρ=>[.pointer (some ⟨m,0,none⟩),.int .u8 1,.int .i64 0]) [] (fun ρ w2 F2 hF2 hpk2=>?_)
 refine (mVar_ok (c:=⟨m,2,100,iota 2,ls⟩) (f:=1) (x:=0) ⟨Int.le_refl 0,(show (0:Int)<2 by decide)⟩ hO (by decide) (by decide) ⟨1,by decide,by decide,rfl⟩ hF2).mono ?_
 rintro e2 w'2 (⟨a2,hle2,rfl,hl2⟩|⟨_,_,hti2,_⟩)
 rotate_left
 ·exact absurd (show 100≤2 from hti2.2) (by decide)
 obtain rfl:a2=1:=hle2.is (by decide) rfl (fun k k1 k2=>by omega)
 refine ⟨.v (.tuple #[.int .i64 1,.int .u8 0]),_,rfl,hl2,?_⟩
 refine RVz ⟨[(1,VP m),(3,V64 1),(4,V8 0)],[]⟩ ?_
 refine TTe 1 [1] ?_
 refine RVc 1 9 (fun ρ=>[.pointer (some ⟨m,0,none⟩),.int .u8 1,.int .i64 1]) [] (fun ρ w3 F3 hF3 hpk3=>?_)
 refine (mVar_ok (c:=⟨m,2,100,iota 2,ls⟩) (f:=1) (x:=1) ⟨by decide,(show (1:Int)<2 by decide)⟩ hO (by decide) (by decide) ⟨2,by decide,by decide,rfl⟩ hF3).mono ?_
 rintro e3 w'3 (⟨a3,hle3,rfl,hl3⟩|⟨_,_,hti3,_⟩)
 rotate_left
 ·exact absurd (show 100≤4 from hti3.2) (by decide)
 obtain rfl:a3=2:=hle3.is (by decide) rfl (fun k k1 k2=>by obtain rfl:k=1:=(by omega);exact fun h=>by cases h)
 refine ⟨.v (.tuple #[.int .i64 2,.int .u8 0]),_,rfl,hl3,?_⟩
 refine RVz ⟨[(1,VP m),(3,V64 1),(4,V8 0),(5,V64 2),(6,V8 0)],[]⟩ ?_
 refine TTe 1 [1] ?_
 refine RVc 1 11 (fun ρ=>[.pointer (some ⟨m,0,none⟩),.int .i64 8,.int .i64 1,.int .i64 2]) [] (fun ρ w4 F4 hF4 hpk4=>?_)
 refine (mApply_ok (c:=⟨m,2,100,iota 2,ls⟩) (op:=8) (a0:=1) (a1:=2) (f:=1) (t:=cubeT (1*2^lvN ls 0) 0 0 2) (u:=cubeT (1*2^lvN ls 1) 0 0 2) (by decide) (by decide) rfl (by decide) (by decide) rfl (by decide) ⟨3,by decide,by decide,rfl⟩ (by decide) hF4).mono ?_
 rintro e4 w'4 (⟨a4,hle4,rfl,hl4⟩|⟨_,_,hti4,_⟩)
 rotate_left
 ·exact absurd (show 100≤16 from hti4.2) (by decide)
 obtain rfl:a4=3:=hle4.is (by decide) rfl (fun k k1 k2=>by rcases (show k=1∨k=2 by omega) with rfl|rfl<;>exact fun h=>by cases h)
 refine ⟨.v (.tuple #[.int .i64 3,.int .u8 0]),_,rfl,hl4,?_⟩
 refine RVz ⟨[(1,VP m),(3,V64 1),(4,V8 0),(5,V64 2),(6,V8 0),(7,V64 3),(8,V8 0)],[]⟩ ?_
 refine TTe 1 [1] ?_
 refine RVc 1 12 (fun ρ=>[.pointer (some ⟨m,0,none⟩),.int .i64 3]) [] (fun ρ w5 F5 hF5 hpk5=>?_)
 refine (mCount_ok (c:=⟨m,2,100,iota 2,ls⟩) (a0:=3) (f:=1) (t:=ap2 (8:Int).toNat (cubeT (1*2^lvN ls 0) 0 0 2) (cubeT (1*2^lvN ls 1) 0 0 2)) (by decide) (by decide) rfl (show 1≤2 by decide) (by decide) hF5).mono ?_
 rintro e5 w'5 ⟨rfl,hl5⟩
 refine ⟨.v (.tuple #[.int .i64 1,.int .u8 0]),_,congrArg (fun x:Nat=>Ending.returned (.tuple #[.int .i64 (x:Int),.int .u8 0])) hval,hl5,?_⟩
 refine RVz ⟨[(3,V64 1),(4,V8 0),(5,V64 2),(6,V8 0),(7,V64 3),(8,V8 0),(9,V64 1),(10,V8 0)],[]⟩ ?_
 refine TTa 0 ⟨[(0,VB true)],[]⟩ ?_
 refine TTs Tryz.results4 (VB true) (fun _ _ h=>h) (fun ρ a w6 hs6=>?_)
 exact ⟨rfl,hs6.lands.below⟩
set_option maxRecDepth 100000 in
set_option maxHeartbeats 4000000 in
theorem full_A {a0 f dr:Int} (w:World) (h:a0<1):Calls Tryz.prog 3 #[.int .i64 a0,.int .u8 f,.int .u8 dr] w (SaysT w):=by
 have hA:decide (a0<1)=true:=by simp;omega
 refine TTg (R:=emptyR) [V64 a0,V8 f,V8 dr] Tryz.func3 Tryz.ntmps3 rfl ?_
 refine TTa 0 ⟨[(0,V64 a0),(1,V8 f),(2,V8 dr)],[]⟩ ?_
 refine TT.seq (TTe 1 [0] ?_)
 refine RVc 0 4 (fun ρ=>[]) [] (fun ρ w1 F1 hF1 hpk1=>?_)
 refine (alive30 w1).mono ?_
 rintro e1 w'1 ⟨rfl,hb1⟩
 refine ⟨VB true,_,rfl,.of_below hF1 hb1,?_⟩
 refine RVz ⟨[(0,V64 a0),(1,V8 f),(2,V8 dr),(27,VB false)],[]⟩ ?_
 refine TTu (TT.next ?_)
 refine TT.seq (TTe 1 [1] ?_)
 refine RVp 1 (.bool (decide (a0<1))) (.bool true) (by rw [hA]) ?_
 refine RVz ⟨[(0,V64 a0),(1,V8 f),(2,V8 dr),(41,VB true)],[]⟩ ?_
 refine TTy ?_
 refine TTa 0 ⟨[(6,VB true)],[]⟩ ?_
 refine TTs Tryz.results3 (VB true) (fun _ _ h=>h) (fun ρ a w2 hs2=>?_)
 exact ⟨rfl,hs2.lands.below⟩
set_option maxRecDepth 100000 in
set_option maxHeartbeats 4000000 in
theorem full_B {a0 f dr:Int} (w:World) (h0:1≤a0) (h:6<a0):Calls Tryz.prog 3 #[.int .i64 a0,.int .u8 f,.int .u8 dr] w (SaysT w):=by
 have hA:decide (a0<1)=false:=by simp;omega
 have hB:decide (a0>6)=true:=by simp;omega
 refine TTg (R:=emptyR) [V64 a0,V8 f,V8 dr] Tryz.func3 Tryz.ntmps3 rfl ?_
 refine TTa 0 ⟨[(0,V64 a0),(1,V8 f),(2,V8 dr)],[]⟩ ?_
 refine TT.seq (TTe 1 [0] ?_)
 refine RVc 0 4 (fun ρ=>[]) [] (fun ρ w1 F1 hF1 hpk1=>?_)
 refine (alive30 w1).mono ?_
 rintro e1 w'1 ⟨rfl,hb1⟩
 refine ⟨VB true,_,rfl,.of_below hF1 hb1,?_⟩
 refine RVz ⟨[(0,V64 a0),(1,V8 f),(2,V8 dr),(27,VB false)],[]⟩ ?_
 refine TTu (TT.next ?_)
 refine TT.seq (TTe 2 [1,4] ?_)
 refine RVp 1 (.bool (decide (a0<1))) (.bool false) (by rw [hA]) ?_
 refine RVp 4 (.bool (decide (a0>6))) (.bool true) (by rw [hB]) ?_
 refine RVz ⟨[(0,V64 a0),(1,V8 f),(2,V8 dr),(41,VB true)],[]⟩ ?_
 refine TTy ?_
 refine TTa 0 ⟨[(6,VB true)],[]⟩ ?_
 refine TTs Tryz.results3 (VB true) (fun _ _ h=>h) (fun ρ a w2 hs2=>?_)
 exact ⟨rfl,hs2.lands.below⟩
set_option maxRecDepth 100000 in
set_option maxHeartbeats 4000000 in
theorem full_C {a0 f dr:Int} (w:World) (h0:1≤a0) (h1:a0≤6) (h:f<1):Calls Tryz.prog 3 #[.int .i64 a0,.int .u8 f,.int .u8 dr] w (SaysT w):=by
 have hA:decide (a0<1)=false:=by simp;omega
 have hB:decide (a0>6)=false:=by simp;omega
 have hC:decide (f<1)=true:=by simp;omega
 refine TTg (R:=emptyR) [V64 a0,V8 f,V8 dr] Tryz.func3 Tryz.ntmps3 rfl ?_
 refine TTa 0 ⟨[(0,V64 a0),(1,V8 f),(2,V8 dr)],[]⟩ ?_
 refine TT.seq (TTe 1 [0] ?_)
 refine RVc 0 4 (fun ρ=>[]) [] (fun ρ w1 F1 hF1 hpk1=>?_)
 refine (alive30 w1).mono ?_
 rintro e1 w'1 ⟨rfl,hb1⟩
 refine ⟨VB true,_,rfl,.of_below hF1 hb1,?_⟩
 refine RVz ⟨[(0,V64 a0),(1,V8 f),(2,V8 dr),(27,VB false)],[]⟩ ?_
 refine TTu (TT.next ?_)
 refine TT.seq (TTe 3 [1,4,8] ?_)
 refine RVp 1 (.bool (decide (a0<1))) (.bool false) (by rw [hA]) ?_
 refine RVp 4 (.bool (decide (a0>6))) (.bool false) (by rw [hB]) ?_
 refine RVp 8 (.bool (decide (f<1))) (.bool true) (by rw [hC]) ?_
 refine RVz ⟨[(0,V64 a0),(1,V8 f),(2,V8 dr),(41,VB true)],[]⟩ ?_
 refine TTy ?_
 refine TTa 0 ⟨[(6,VB true)],[]⟩ ?_
 refine TTs Tryz.results3 (VB true) (fun _ _ h=>h) (fun ρ a w2 hs2=>?_)
 exact ⟨rfl,hs2.lands.below⟩
set_option maxRecDepth 100000 in
set_option maxHeartbeats 4000000 in
theorem full_D {a0 f dr:Int} (w:World) (h0:1≤a0) (h1:a0≤6) (h2:1≤f) (h:5<f):Calls Tryz.prog 3 #[.int .i64 a0,.int .u8 f,.int .u8 dr] w (SaysT w):=by
 have hA:decide (a0<1)=false:=by simp;omega
 have hB:decide (a0>6)=false:=by simp;omega
 have hC:decide (f<1)=false:=by simp;omega
 have hD:decide (f>5)=true:=by simp;omega
 refine TTg (R:=emptyR) [V64 a0,V8 f,V8 dr] Tryz.func3 Tryz.ntmps3 rfl ?_
 refine TTa 0 ⟨[(0,V64 a0),(1,V8 f),(2,V8 dr)],[]⟩ ?_
 refine TT.seq (TTe 1 [0] ?_)
 refine RVc 0 4 (fun ρ=>[]) [] (fun ρ w1 F1 hF1 hpk1=>?_)
 refine (alive30 w1).mono ?_
 rintro e1 w'1 ⟨rfl,hb1⟩
 refine ⟨VB true,_,rfl,.of_below hF1 hb1,?_⟩
 refine RVz ⟨[(0,V64 a0),(1,V8 f),(2,V8 dr),(27,VB false)],[]⟩ ?_
 refine TTu (TT.next ?_)
 refine TT.seq (TTe 4 [1,4,8,12] ?_)
 refine RVp 1 (.bool (decide (a0<1))) (.bool false) (by rw [hA]) ?_
 refine RVp 4 (.bool (decide (a0>6))) (.bool false) (by rw [hB]) ?_
 refine RVp 8 (.bool (decide (f<1))) (.bool false) (by rw [hC]) ?_
 refine RVp 12 (.bool (decide (f>5))) (.bool true) (by rw [hD]) ?_
 refine RVz ⟨[(0,V64 a0),(1,V8 f),(2,V8 dr),(41,VB true)],[]⟩ ?_
 refine TTy ?_
 refine TTa 0 ⟨[(6,VB true)],[]⟩ ?_
 refine TTs Tryz.results3 (VB true) (fun _ _ h=>h) (fun ρ a w2 hs2=>?_)
 exact ⟨rfl,hs2.lands.below⟩
set_option maxRecDepth 100000 in
set_option maxHeartbeats 4000000 in
theorem full_E {n:Nat} {f dr:Int} (w:World) (h1:1≤n) (h6:n≤6) (hf:1≤f∧f≤5) (hdr:0≤dr∧dr≤255):Calls Tryz.prog 3 #[.int .i64 (n:Int),.int .u8 f,.int .u8 dr] w (SaysT w):=by
 have hA:decide ((n:Int)<1)=false:=by simp;omega
 have hB:decide ((n:Int)>6)=false:=by simp;omega
 have hC:decide (f<1)=false:=by simp;omega
 have hD:decide (f>5)=false:=by simp;omega
 obtain ⟨d,hd⟩:=Int.eq_ofNat_of_zero_le (show 0≤1+dr by omega)
 have hd1:1≤d:=by omega
 have hd6:d≤256:=by omega
 have hdd:IntKind.i64.wrap (1+IntKind.i64.wrap dr)=(d:Int):=by
  rw [show IntKind.i64.wrap dr=dr from IntWalk.i64_in _ (by omega),IntWalk.i64_in _ (by omega)]
  exact hd
 have hdw:IntKind.i64.wrap (((d%256:Nat):Int)+1)=((d%256+1:Nat):Int):=i64_up (by omega)
 have hee:((d:Int)==(d:Int))=true:=by simp
 have hda:1≤d%256+1:=by omega
 have hdb:d%256+1≤256:=by omega
 have hdc:d%256+1≠d:=by omega
 refine TTg (R:=emptyR) [V64 (n:Int),V8 f,V8 dr] Tryz.func3 Tryz.ntmps3 rfl ?_
 refine TTa 0 ⟨[(0,V64 (n:Int)),(1,V8 f),(2,V8 dr)],[]⟩ ?_
 refine TT.seq (TTe 1 [0] ?_)
 refine RVc 0 4 (fun ρ=>[]) [] (fun ρ w1 F1 hF1 hpk1=>?_)
 refine (alive30 w1).mono ?_
 rintro e1 w'1 ⟨rfl,hb1⟩
 refine ⟨VB true,_,rfl,.of_below hF1 hb1,?_⟩
 refine RVz ⟨[(0,V64 (n:Int)),(1,V8 f),(2,V8 dr),(27,VB false)],[]⟩ ?_
 refine TTu (TT.next ?_)
 refine TT.seq (TTe 4 [1,4,8,12] ?_)
 refine RVp 1 (.bool (decide ((n:Int)<1))) (.bool false) (by rw [hA]) ?_
 refine RVp 4 (.bool (decide ((n:Int)>6))) (.bool false) (by rw [hB]) ?_
 refine RVp 8 (.bool (decide (f<1))) (.bool false) (by rw [hC]) ?_
 refine RVp 12 (.bool (decide (f>5))) (.bool false) (by rw [hD]) ?_
 refine RVz ⟨[(0,V64 (n:Int)),(1,V8 f),(2,V8 dr),(41,VB false)],[]⟩ ?_
 refine TTu (TT.next ?_)
 refine TTa 0 ⟨[(0,V64 (n:Int)),(2,V8 dr),(7,V8 f)],[]⟩ ?_
 refine TTe 1 [1] ?_
 refine RVc 1 5 (fun ρ=>[.int .i64 (n:Int),.int .i64 0]) [] (fun ρ w2 F2 hF2 hpk2=>?_)
 obtain rfl:F2=[]:=hF2
 refine (mNew (n:=n) (room:=0) (w:=w2) (by omega) (by decide)).mono ?_
 rintro e2 w'2 ⟨⟨m,ls⟩,rfl,hO,hl2⟩
 refine ⟨.v (.tuple #[.pointer (some ⟨m,0,none⟩),.int .u8 0]),_,rfl,hl2,?_⟩
 refine RVz ⟨[(2,V8 dr),(7,V8 f),(8,VP m),(9,V8 0)],[]⟩ ?_
 refine TT.seq (TTa 0 ⟨[(2,V8 dr),(7,V8 f),(8,VP m),(50,VB false)],[]⟩ ?_)
 refine TTu (TT.next ?_)
 refine TT.seq (TTa 0 ⟨[(2,V8 dr),(7,V8 f),(8,VP m),(10,V64 1)],[]⟩ ?_)
 refine TT.block ?_
 refine TT.res (R':=mgF ⟨m,n,0,iota n,ls⟩ (1+2*0) 0 (filH (f,BT.zeros n) (0+1))) (fun _ _ h=>by rw [show filH (f,BT.zeros n) (0+1)=fun _=>none from filH_one _];exact h) ?_
 refine TT.loop (ι:=Nat) (fun i=>i≤256) (fun i=>⟨[(2,V8 dr),(7,V8 f),(8,VP m),(10,V64 ((i+1:Nat):Int))],[]⟩) (fun i=>mgF ⟨m,n,0,iota n,ls⟩ (1+2*i) 0 (filH (f,BT.zeros n) (i+1))) (fun i=>256-i) 0 (by omega) rfl rfl (fun i hi3=>?_)
 have hi0:i≤256:=hi3
 have hup:IntKind.i64.wrap (((i+1:Nat):Int)+1)=((i+1+1:Nat):Int):=i64_up (by omega)
 have hnn:(((i+1:Nat):Int) != ((i+1:Nat):Int))=false:=by simp
 refine TT.seq (TTa 0 ⟨[(2,V8 dr),(7,V8 f),(8,VP m),(10,V64 ((i+1:Nat):Int)),(52,VB (decide (((i+1:Nat):Int)≤256)))],[]⟩ ?_)
 refine TT.cond (b:=decide (((i+1:Nat):Int)≤256)) (by kernel_rfl) (fun hc4=>?_) (fun hc4=>?_)
 ·have hi6:i<256:=by simp only [decide_eq_true_eq] at hc4;omega
  refine TT.skip ?_
  refine TT.next ?_
  refine TT.seq ?_
  refine TT.block ?_
  refine TTe 1 [2] ?_
  refine RVc 2 6 (fun ρ=>[.pointer (some ⟨m,0,none⟩),.int .u8 f,.bool false]) [] (fun ρ w5 F5 hF5 hpk5=>?_)
  refine (mConst_false (c:=⟨m,n,0,iota n,ls⟩) hO (by omega) hf ⟨i+1,by omega,by omega,by unfold filH;rw [if_neg (by omega)]⟩ hF5).mono ?_
  rintro e5 w'5 (⟨a9,hle,rfl,hl5⟩|⟨_,hfu,_⟩)
  rotate_left
  ·exact hfu.elim
  obtain rfl:a9=i+1:=filH_least (by omega) hle
  refine ⟨.v (.tuple #[.int .i64 ((i+1:Nat):Int),.int .u8 0]),mgF ⟨m,n,0,iota n,ls⟩ (1+2*(i+1)) 0 (filH (f,BT.zeros n) (i+1+1)),rfl,hl5.imp (fun _ h=>by rw [filH_put _ (by omega)] at h;exact h),?_⟩
  refine RVz ⟨[(2,V8 dr),(7,V8 f),(8,VP m),(10,V64 ((i+1:Nat):Int)),(11,V64 ((i+1:Nat):Int)),(12,V8 0)],[]⟩ ?_
  refine TTe 1 [6] ?_
  refine RVp 6 (.bool (((i+1:Nat):Int) != ((i+1:Nat):Int))) (.bool false) (by rw [hnn]) ?_
  refine RVz ⟨[(2,V8 dr),(7,V8 f),(8,VP m),(10,V64 ((i+1:Nat):Int)),(68,VB false)],[]⟩ ?_
  refine TTu (TT.next ?_)
  refine TT.p0 (s':=⟨[(2,V8 dr),(7,V8 f),(8,VP m),(10,V64 (IntKind.i64.wrap (((i+1:Nat):Int)+1)))],[]⟩) 0 (by kernel_rfl) ?_
  rw [hup]
  exact fun ρ a w hs=>⟨ρ,i+1,by omega,by omega,hs⟩
 ·have hi6:256=i:=by simp only [decide_eq_false_iff_not] at hc4;omega
  subst hi6
  refine TT.res (R':=mgF ⟨m,n,0,iota n,ls⟩ 513 0 (filH (f,BT.zeros n) 257)) (fun _ _ h=>h) ?_
  refine TTx ?_
  refine TT.next ?_
  refine TTe 1 [2] ?_
  refine RVc 2 6 (fun ρ=>[.pointer (some ⟨m,0,none⟩),.int .u8 f,.bool false]) [] (fun ρ w6 F6 hF6 hpk6=>?_)
  refine (mConst_full (c:=⟨m,n,0,iota n,ls⟩) (f:=f) (x:=false) filH_full hF6).mono ?_
  rintro e6 w'6 ⟨rfl,hl6⟩
  refine ⟨.v (.tuple #[.int .i64 0,.int .u8 9]),_,rfl,hl6,?_⟩
  refine RVz ⟨[(2,V8 dr),(7,V8 f),(8,VP m),(14,V8 9)],[]⟩ ?_
  refine TTe 1 [1] ?_
  refine RVc 1 7 (fun ρ=>[.pointer (some ⟨m,0,none⟩),.int .i64 1]) [] (fun ρ w7 F7 hF7 hpk7=>?_)
  refine (mCopy_full (c:=⟨m,n,0,iota n,ls⟩) (x:=1) filH_full hF7).mono ?_
  rintro e7 w'7 ⟨rfl,hl7⟩
  refine ⟨.v (.tuple #[.int .i64 0,.int .u8 9]),_,rfl,hl7,?_⟩
  refine RVz ⟨[(2,V8 dr),(7,V8 f),(8,VP m),(14,V8 9),(16,V8 9)],[]⟩ ?_
  refine TTe 1 [1] ?_
  refine RVc 1 7 (fun ρ=>[.pointer (some ⟨m,0,none⟩),.int .i64 999]) [] (fun ρ w8 F8 hF8 hpk8=>?_)
  refine (mCopy_full (c:=⟨m,n,0,iota n,ls⟩) (x:=999) filH_full hF8).mono ?_
  rintro e8 w'8 ⟨rfl,hl8⟩
  refine ⟨.v (.tuple #[.int .i64 0,.int .u8 9]),_,rfl,hl8,?_⟩
  refine RVz ⟨[(2,V8 dr),(7,V8 f),(8,VP m),(14,V8 9),(16,V8 9),(18,V8 9)],[]⟩ ?_
  refine TTe 1 [1] ?_
  refine RVc 1 6 (fun ρ=>[.pointer (some ⟨m,0,none⟩),.int .u8 0,.bool false]) [] (fun ρ w9 F9 hF9 hpk9=>?_)
  refine (mConst_full (c:=⟨m,n,0,iota n,ls⟩) (f:=0) (x:=false) filH_full hF9).mono ?_
  rintro e9 w'9 ⟨rfl,hl9⟩
  refine ⟨.v (.tuple #[.int .i64 0,.int .u8 9]),_,rfl,hl9,?_⟩
  refine RVz ⟨[(2,V8 dr),(7,V8 f),(8,VP m),(14,V8 9),(16,V8 9),(18,V8 9),(20,V8 9)],[]⟩ ?_
  refine TT.seq (TTa 0 ⟨[(2,V8 dr),(7,V8 f),(8,VP m),(107,VB false)],[]⟩ ?_)
  refine TTu (TT.next ?_)
  refine TTa 0 ⟨[(7,V8 f),(8,VP m),(21,V64 (IntKind.i64.wrap (1+(IntKind.i64.wrap dr))))],[]⟩ ?_
  rw [hdd]
  refine TT.seq (TTe 2 [2,8] ?_)
  refine RVc 2 8 (fun ρ=>[.pointer (some ⟨m,0,none⟩),.int .i64 (d:Int)]) [] (fun ρ w10 F10 hF10 hpk10=>?_)
  refine (mDrop_ok (c:=⟨m,n,0,iota n,ls⟩) (a0:=d) (f:=f) (t:=BT.zeros n) hd1 hd6 (by unfold filH;rw [if_pos (by omega)]) hF10).mono ?_
  rintro e10 w'10 ⟨rfl,hl10⟩
  refine ⟨V8 0,_,rfl,hl10,?_⟩
  refine RVc 8 8 (fun ρ=>[.pointer (some ⟨m,0,none⟩),.int .i64 (d:Int)]) [] (fun ρ w11 F11 hF11 hpk11=>?_)
  refine (mDrop_bad (c:=⟨m,n,0,iota n,ls⟩) (x:=(d:Int)) (fun h=>h.2.2 (by unfold Hs.put;rw [Int.toNat_natCast,if_pos rfl])) hF11).mono ?_
  rintro e11 w'11 ⟨rfl,hl11⟩
  refine ⟨V8 5,_,rfl,hl11,?_⟩
  refine RVz ⟨[(7,V8 f),(8,VP m),(21,V64 (d:Int)),(122,VB false)],[]⟩ ?_
  refine TTu (TT.next ?_)
  refine TTe 1 [2] ?_
  refine RVc 2 9 (fun ρ=>[.pointer (some ⟨m,0,none⟩),.int .u8 f,.int .i64 0]) [] (fun ρ w12 F12 hF12 hpk12=>?_)
  refine (mVar_ok (c:=⟨m,n,0,iota n,ls⟩) (f:=f) (x:=0) ⟨Int.le_refl 0,(show (0:Int)<(n:Int) by omega)⟩ hO (by decide) hf ⟨d,hd1,hd6,by unfold Hs.put;rw [if_pos rfl]⟩ hF12).mono ?_
  rintro e12 w'12 (⟨a9,hle,rfl,hl12⟩|⟨rfl,_,_,hl12⟩)
  ·exact (mgF_novar (c:=⟨m,n,0,iota n,ls⟩) hf (hO.lv ⟨Int.le_refl 0,(show (0:Int)<(n:Int) by omega)⟩) hle.most rfl hl12).elim
  refine ⟨.v (.tuple #[.int .i64 0,.int .u8 6]),_,rfl,hl12,?_⟩
  refine RVz ⟨[(8,VP m),(21,V64 (d:Int)),(22,V64 0),(23,V8 6)],[]⟩ ?_
  refine TTe 3 [2,3,4] ?_
  refine RV.bin 2 .rem 3 (.int .i64 (d:Int)) (.int .i64 256) (.int .i64 ((d%256:Nat):Int)) (by kernel_rfl) (by kernel_rfl) (by kernel_rfl) (fun x y w=>eqGuard_int _ _ _ _ _ _ _ _ w) (fun w=>run_rem256 w) ?_
  refine RVp 3 (.int .i64 (IntKind.i64.wrap (((d%256:Nat):Int)+1))) (.int .i64 ((d%256+1:Nat):Int)) (by rw [hdw]) ?_
  refine RVc 4 7 (fun ρ=>[.pointer (some ⟨m,0,none⟩),.int .i64 ((d%256+1:Nat):Int)]) [] (fun ρ w13 F13 hF13 hpk13=>?_)
  refine (mCopy_ok (c:=⟨m,n,0,iota n,ls⟩) (a0:=d%256+1) (f:=f) (t:=BT.zeros n) hda hdb (by unfold Hs.put filH;rw [if_neg hdc,if_pos (by omega)]) (by decide) ⟨d,hd1,hd6,by unfold Hs.put;rw [if_pos rfl]⟩ hF13).mono ?_
  rintro e13 w'13 (⟨a9,hle,rfl,hl13⟩|⟨_,hfu,_⟩)
  rotate_left
  ·exact hfu.elim
  obtain rfl:d=a9:=(drop_least hd1 hd6 hle).symm
  refine ⟨.v (.tuple #[.int .i64 (d:Int),.int .u8 0]),_,rfl,hl13,?_⟩
  refine RVz ⟨[(8,VP m),(21,V64 (d:Int)),(22,V64 0),(23,V8 6),(24,V64 (d:Int)),(25,V8 0)],[]⟩ ?_
  refine TTe 2 [15,19] ?_
  refine RVp 15 (.bool ((d:Int)==(d:Int))) (.bool true) (by rw [hee]) ?_
  refine RVc 19 10 (fun ρ=>[.pointer (some ⟨m,0,none⟩)]) [] (fun ρ w14 F14 hF14 hpk14=>?_)
  refine (mNodes (c:=⟨m,n,0,iota n,ls⟩) hF14).mono ?_
  rintro e14 w'14 ⟨k,rfl,_,hk,hl14⟩
  obtain rfl:k=0:=Nat.le_zero.1 hk
  refine ⟨V64 0,_,rfl,hl14,?_⟩
  refine RVz ⟨[(6,VB true)],[]⟩ ?_
  refine TTs Tryz.results3 (VB true) (fun _ _ h=>h) (fun ρ a w15 hs15=>?_)
  exact ⟨rfl,hs15.lands.below⟩
theorem mfull_walk (a0 a1 a2:Int) (w:World) (w0:(Lit.int .i64 a0).wf=true) (w1:(Lit.int .u8 a1).wf=true) (w2:(Lit.int .u8 a2).wf=true):Calls Tryz.prog 3 #[.int .i64 a0,.int .u8 a1,.int .u8 a2] w fun e w'=>e = .returned (.bool true)∧Below w.heap.size w w':=by
 have h2:0≤a2∧a2≤255:=by
  simp [Lit.wf,IntKind.min,IntKind.max,IntKind.signed,IntKind.bits] at w2
  omega
 show Calls _ _ _ w (SaysT w)
 by_cases hA:a0<1
 ·exact full_A w hA
 ·by_cases hB:6<a0
  ·exact full_B w (by omega) hB
  ·by_cases hC:a1<1
   ·exact full_C w (by omega) (by omega) hC
   ·by_cases hD:5<a1
    ·exact full_D w (by omega) (by omega) (by omega) hD
    ·obtain ⟨n,rfl⟩:=Int.eq_ofNat_of_zero_le (show 0≤a0 by omega)
     exact full_E w (by omega) (by omega) (by omega) h2
end
end Go.Proofs.YtnlmlehcpngcgaaGreat
