/- Contracts: store.New, Leads. -/
import Derived.Test.YtnlmlehcpngcgaaGreatQah
namespace Go.Proofs.YtnlmlehcpngcgaaGreat
set_option linter.unusedSimpArgs false
set_option linter.unusedVariables false
section
open Go.RowKit
theorem keepD {W w:World} (h:Below W.heap.size W w) (o:Obj):Below W.heap.size W (w.drew.alloc o):=h.drew.alloc h.size _
theorem keepE {W w:World} (h:Below W.heap.size W w) (o:Obj):Below W.heap.size W (w.alloc o).drew:=(h.alloc h.size _).drew
theorem newA {w w1:World} {T:TypeId} {cs:Array Value} (h:Below (w.drew.alloc (.cells cs T)).heap.size (w.drew.alloc (.cells cs T)) w1):Blk w1 w.heap.size T cs:=(Blk.new w.drew T cs).on' h
theorem keep7' {B g:Nat} {W w:World} {v0 v1 v2 v3 v4 v5 v6:Value} (hg:B≤g) (h:Below B W w):Below B W (((((((w.setCell ⟨g,0,none⟩ v0).setCell ⟨g,1,none⟩ v1).setCell ⟨g,2,none⟩ v2).setCell ⟨g,3,none⟩ v3).setCell ⟨g,4,none⟩ v4).setCell ⟨g,5,none⟩ v5).setCell ⟨g,6,none⟩ v6):=(((((((h.setCell hg _).setCell hg _).setCell hg _).setCell hg _).setCell hg _).setCell hg _).setCell hg _)
theorem storeNew_yes (n room:Int) (w:World) (h0:0≤n) (h1:n≤16) (h2:0≤room) (h3:room≤1048576) :
  Calls Tryz.prog 13 #[.int .i64 n,.int .i64 room] w fun e w'=>(∃ g F,e = .returned (.tuple #[.pointer (some ⟨g,0,none⟩),.int .u8 0])∧StoreAt w' F g n.toNat room.toNat [] []∧(∀ k∈F,w.heap.size≤k))∧Below w.heap.size w w':=by
 obtain ⟨a,rfl⟩:=Int.eq_ofNat_of_zero_le h0
 obtain ⟨c,rfl⟩:=Int.eq_ofNat_of_zero_le h2
 go_enter Tryz.func13,Tryz.ntmps13
 go_wp2_with fail
 refine (arenaNew_yes c _ h2 h3).mono ?_
 rintro e w1 ⟨Fa,rfl,hA,hFa,hb1⟩
 have HA:=Lib.hid hA
 have HFa:=Lib.hid hFa
 clear hA hFa
 go_wp2_with fail
 refine (idxNew_any _).mono ?_
 rintro e w2 ⟨⟨gi,Fi,rfl,hI,hFi⟩,hb2⟩
 have HI:=Lib.hid hI
 have HFi:=Lib.hid hFi
 clear hI hFi
 have hs1:=hb1.size
 have hbel:=hb1.trans (hb2.mono hb1.size)
 have HBEL:=Lib.hid hbel
 have HB2:=Lib.hid hb2
 clear hb1 hb2 hbel
 go_wp2_with fail
 go_ret2
 have hFalt:=HA.out.lt
 have hFilt:=HI.out.lt
 have hs:=HBEL.out.size
 have hs2:=HB2.out.size
 rw [Int.toNat_natCast]
 refine ⟨⟨w2.heap.size,w2.heap.size::(Fa++Fi),rfl,⟨w.heap.size,gi,Fa,Fi,fun _=>none,Blk.new _ _ _,(HA.out.on HB2.out).on ((Below.refl _ _).alloc (Nat.le_refl _) _),HI.out.on ((Below.refl _ _).alloc (Nat.le_refl _) _),fun r id=>?_,rfl,?_,⟨by omega,by omega,by simp,rfl,fun i r h=>by simp at h⟩⟩,?_⟩,HBEL.out.alloc HBEL.out.size _⟩
 ·rw [recAt_nil];simp
 ·rw [List.nodup_cons,List.nodup_append]
  refine ⟨fun hm=>?_,HA.out.nodup,?_,fun x hx y hy=>?_⟩
  ·rcases List.mem_append.1 hm with h|h
   ·have:=hFalt _ h;omega
   ·have:=hFilt _ h;omega
  ·obtain ⟨sl,⟨A,q,c',_,_,_,rfl,hnd⟩,_⟩:=HI.out
   exact hnd
  ·have:=hFalt x hx;have:=HFi.out y hy;omega
 ·intro k hk
  rcases List.mem_cons.1 hk with rfl|hk
  ·omega
  ·rcases List.mem_append.1 hk with hk|hk
   ·exact HFa.out k hk
   ·have:=HFi.out k hk;omega
theorem leads_no {cs:List (Option Rec)} {n f:Int} {e:Edg} {l:Int} (h:plain f e l n=false):leads cs n f e l=false:=by unfold leads;rw [h];rfl
theorem leads_low {cs:List (Option Rec)} {n f:Int} {e:Edg} {l:Int} (h:plain f e l n=true) (h2:e.pos<2):leads cs n f e l=true:=by unfold leads;rw [h,decide_eq_true h2];rfl
theorem leads_none {cs:List (Option Rec)} {n f:Int} {e:Edg} {l:Int} (h:plain f e l n=true) (h2:¬e.pos<2) (h3:recAt cs e.pos=none):leads cs n f e l=false:=by unfold leads;rw [h,decide_eq_false h2,h3];rfl
theorem leads_some {cs:List (Option Rec)} {n f:Int} {e:Edg} {l:Int} {r:Rec} (h:plain f e l n=true) (h2:¬e.pos<2) (h3:recAt cs e.pos=some r):leads cs n f e l=((r.form==f)&&(decide (l≤r.top)&&decide (e.tag≤r.top))):=by
 unfold leads;rw [h,decide_eq_false h2,h3]
 by_cases g1:r.form=f<;>simp [g1]
set_option maxRecDepth 100000 in
set_option maxHeartbeats 4000000 in
theorem leads_any (F:List Nat) (g n room:Nat) (cs:List (Option Rec)) (free:List Int) (f:Int) (e:Edg) (l:Int) (w:World) (h:StoreAt w F g n room cs free) (hf:0≤f∧f≤255) (he:e.Wf) :
  Calls Tryz.prog 59 #[.pointer (some ⟨g,0,none⟩),.int .u8 f,.agg e.cells.toArray,.int .i64 l] w fun r w'=>r = .returned (.bool (leads cs n f e l))∧Below w.heap.size w w':=by
 have hst:=h
 obtain ⟨ga,gi,Fa,Fi,m,hB,hA,hI,h4,rfl,h6,h7⟩:=h
 have hlt:=hB.lt
 have HE:=Lib.hid he
 have HOK:=Lib.hid h7
 have HF:=Lib.hid hf
 obtain ⟨t,p⟩:=e
 obtain ⟨e1,e2,e3,e4⟩:=he
 simp only [Edg.cells] at e1 e2 e3 e4 ⊢
 obtain ⟨W,hW⟩:∃W,W=w.alloc (.cells #[.int .u8 t,.int .u32 p] 48):=⟨_,rfl⟩
 have hbW:Below w.heap.size w W:=by rw [hW];exact (Below.refl _ _).alloc (Nat.le_refl _) _
 have hK:Blk W w.heap.size 48 #[.int .u8 t,.int .u32 p]:=by rw [hW];exact Blk.new w _ _
 have hkW:=hK.lt
 have hgW:g<W.heap.size:=by have:=hbW.size;omega
 have FACTS:Hid (∀ W',Below W.heap.size W W'→W'.cell? ⟨g,0,none⟩=some (.int .i64 (n:Nat))∧W'.cell? ⟨g,1,none⟩=some (.pointer (some ⟨ga,0,none⟩))∧W'.cell? ⟨w.heap.size,0,none⟩=some (.int .u8 t)∧W'.cell? ⟨w.heap.size,1,none⟩=some (.int .u32 p)):=Lib.hid fun W' hW'=>⟨(hW'.cell (p:=⟨g,0,none⟩) hgW).trans ((hB.on' hbW).cell 0),(hW'.cell (p:=⟨g,1,none⟩) hgW).trans ((hB.on' hbW).cell 1),(hW'.cell (p:=⟨w.heap.size,0,none⟩) hkW).trans (hK.cell 0),(hW'.cell (p:=⟨w.heap.size,1,none⟩) hkW).trans (hK.cell 1)⟩
 have HWW:=Lib.hid hW
 have HA:=Lib.hid (hA.on hbW)
 have HbW:=Lib.hid hbW
 have hPL:∀W',Below W.heap.size W W'→Calls Tryz.prog 75 #[.int .u8 f,.agg #[.int .u8 t,.int .u32 p],.int .i64 l,.int .i64 (n:Nat)] W' fun r w'=>r = .returned (.bool (plain f ⟨t,p⟩ l n))∧Below W.heap.size W w':=fun W' hW'=>(plain_any f ⟨t,p⟩ l n W' HF.out HE.out).mono fun _ _ ⟨q1,q2⟩=>⟨q1,hW'.trans (q2.mono hW'.size)⟩
 have HPL:=Lib.hid hPL
 have hGE:∀W',Below W.heap.size W W'→Calls Tryz.prog 76 #[.pointer (some ⟨ga,0,none⟩),.int .u32 p] W' fun r w'=>r = .returned (getR (recAt cs p))∧Below W.heap.size W w'∧Below W'.heap.size W' w':=fun W' hW'=>(arenaGet_any _ _ _ _ _ p W' (HA.out.on hW') e3 e4).mono fun _ _ ⟨q1,q2⟩=>⟨q1,hW'.trans (q2.mono hW'.size),q2⟩
 have HGE:=Lib.hid hGE
 clear hB hA hI h4 h6 h7 hst hf hK hbW hPL hGE
 have hk0:=FACTS.out _ (Below.refl _ _)
 cases hp:plain f ⟨t,p⟩ l n
 ·have HP:=Lib.hid hp
  have HR:Hid (leads cs n f ⟨t,p⟩ l=false):=Lib.hid (leads_no HP.out)
  clear hp
  go_enter Tryz.func59,Tryz.ntmps59
  go_wp2_with fail
  rw [← HWW.out]
  clear hW
  go_region_held3 (fun w'=>w'.cell? ⟨g,0,none⟩=some (.int .i64 (n:Nat))∧w'.cell? ⟨g,1,none⟩=some (.pointer (some ⟨ga,0,none⟩))∧w'.cell? ⟨w.heap.size,0,none⟩=some (.int .u8 t)∧w'.cell? ⟨w.heap.size,1,none⟩=some (.int .u32 p)) ((refine FACTS.out _ ?_;with_reducible (first|exact Below.refl _ _|exact (Below.refl _ _).drew|exact hbel6|fail))) (first|(go_at_call 75;refine (HPL.out _ (Below.refl _ _).drew).mono ?_;rintro e w6 ⟨rfl,hbel6⟩;rw [HP.out])|fail)
  go_wp2_with fail
  go_ret
  exact ⟨by rw [HR.out];rfl,HbW.out.trans (hbel6.mono HbW.out.size)⟩
 ·have HP:=Lib.hid hp
  clear hp
  by_cases hp2:p<2
  ·have HR:Hid (leads cs n f ⟨t,p⟩ l=true):=Lib.hid (leads_low HP.out hp2)
   go_enter Tryz.func59,Tryz.ntmps59
   go_wp2_with fail
   rw [← HWW.out]
   clear hW
   go_region_held3 (fun w'=>w'.cell? ⟨g,0,none⟩=some (.int .i64 (n:Nat))∧w'.cell? ⟨g,1,none⟩=some (.pointer (some ⟨ga,0,none⟩))∧w'.cell? ⟨w.heap.size,0,none⟩=some (.int .u8 t)∧w'.cell? ⟨w.heap.size,1,none⟩=some (.int .u32 p)) ((refine FACTS.out _ ?_;with_reducible (first|exact Below.refl _ _|exact (Below.refl _ _).drew|exact hbel6|fail))) (first|(go_at_call 75;refine (HPL.out _ (Below.refl _ _).drew).mono ?_;rintro e w6 ⟨rfl,hbel6⟩;rw [HP.out])|fail)
   have c1:=(FACTS.out _ hbel6).2.2.2
   go_wp2_with fail
   go_ret
   exact ⟨by rw [HR.out];rfl,HbW.out.trans (hbel6.mono HbW.out.size)⟩
  ·have HP2:=Lib.hid hp2
   have hp3:2≤p:=by omega
   clear hp2
   cases hr:recAt cs p with
   | none=>
    have HRC:=Lib.hid hr
    have HR:Hid (leads cs n f ⟨t,p⟩ l=false):=Lib.hid (leads_none HP.out HP2.out HRC.out)
    clear hr
    go_enter Tryz.func59,Tryz.ntmps59
    go_wp2_with fail
    rw [← HWW.out]
    clear hW
    go_region_held3 (fun w'=>w'.cell? ⟨g,0,none⟩=some (.int .i64 (n:Nat))∧w'.cell? ⟨g,1,none⟩=some (.pointer (some ⟨ga,0,none⟩))∧w'.cell? ⟨w.heap.size,0,none⟩=some (.int .u8 t)∧w'.cell? ⟨w.heap.size,1,none⟩=some (.int .u32 p)) ((refine FACTS.out _ ?_;with_reducible (first|exact Below.refl _ _|exact (Below.refl _ _).drew|exact hbel6|fail))) (first|(go_at_call 75;refine (HPL.out _ (Below.refl _ _).drew).mono ?_;rintro e w6 ⟨rfl,hbel6⟩;rw [HP.out])|fail)
    have c1:=(FACTS.out _ hbel6).2.2.2
    have hk6:=FACTS.out _ hbel6
    go_wp2_with fail
    go_region_held3 (fun w'=>w'.cell? ⟨g,0,none⟩=some (.int .i64 (n:Nat))∧w'.cell? ⟨g,1,none⟩=some (.pointer (some ⟨ga,0,none⟩))∧w'.cell? ⟨w.heap.size,0,none⟩=some (.int .u8 t)∧w'.cell? ⟨w.heap.size,1,none⟩=some (.int .u32 p)) ((refine FACTS.out _ ?_;with_reducible (first|exact hbel6|exact hbel6.drew|exact keepD hbel6 _|exact keepE hbel6 _|exact hbel7|exact keepC hbel7|exact keep7' (Below.size hbel6) hbel7|fail))) (first|(go_at_call 76;refine (HGE.out _ ?_).mono ?_;(with_reducible first |exact keepD hbel6 _|exact keepE hbel6 _);rintro e w7 ⟨rfl,hbel7,hb7⟩;have HNB:=Lib.hid (newA hb7);clear hb7;have n0:w7.cell? ⟨w6.heap.size,0,none⟩=some (.int .u8 0):=HNB.out.cell 0;have z0:=HNB.out.frozen 0;have n1:w7.cell? ⟨w6.heap.size,1,none⟩=some (.int .u8 0):=HNB.out.cell 1;have z1:=HNB.out.frozen 1;have n2:w7.cell? ⟨w6.heap.size,2,none⟩=some (.int .u8 0):=HNB.out.cell 2;have z2:=HNB.out.frozen 2;have n3:w7.cell? ⟨w6.heap.size,3,none⟩=some (.int .u8 0):=HNB.out.cell 3;have z3:=HNB.out.frozen 3;have n4:w7.cell? ⟨w6.heap.size,4,none⟩=some (.int .u32 0):=HNB.out.cell 4;have z4:=HNB.out.frozen 4;have n5:w7.cell? ⟨w6.heap.size,5,none⟩=some (.int .u8 0):=HNB.out.cell 5;have z5:=HNB.out.frozen 5;have n6:w7.cell? ⟨w6.heap.size,6,none⟩=some (.int .u32 0):=HNB.out.cell 6;have z6:=HNB.out.frozen 6;have q0:¬g=w6.heap.size:=(by have:=Below.size hbel6;omega);have q1:¬w.heap.size=w6.heap.size:=(by have:=Below.size hbel6;omega);rw [HRC.out];unfold getR;simp only [Rec.cells,Rec.nil,Edg.nil])|(go_at_call 76;refine (HGE.out _ ?_).mono ?_;(with_reducible first |exact hbel6.drew|exact hbel6);rintro e w7 ⟨rfl,hbel7,hb7⟩;clear hb7;have q0:¬g=w7.heap.size:=(by have:=hbel7.size;omega);have q1:¬w.heap.size=w7.heap.size:=(by have:=hbel7.size;omega);rw [HRC.out];unfold getR;simp only [Rec.cells,Rec.nil,Edg.nil])|fail)
    all_goals
     go_wp2_with fail
     go_ret
     refine ⟨by rw [HR.out];rfl,?_⟩
     ·with_reducible first
       | exact HbW.out.trans ((keepC hbel7).mono HbW.out.size)
       | exact HbW.out.trans ((keep7' (Below.size hbel6) hbel7).mono HbW.out.size)
       | exact HbW.out.trans (hbel7.mono HbW.out.size)
   | some r=>
    have HRC:=Lib.hid hr
    obtain ⟨rf,rt,rb,⟨rlt,rlp⟩,⟨rht,rhp⟩⟩:=r
    have HR:=Lib.hid (leads_some HP.out HP2.out HRC.out)
    have hwf:=recAt_wf HOK.out HRC.out
    obtain ⟨⟨w1,w2⟩,⟨w3,w4⟩,_,_,_⟩:=hwf
    simp only at w1 w2 w3 w4
    clear hr
    go_enter Tryz.func59,Tryz.ntmps59
    go_wp2_with fail
    rw [← HWW.out]
    clear hW
    go_region_held3 (fun w'=>w'.cell? ⟨g,0,none⟩=some (.int .i64 (n:Nat))∧w'.cell? ⟨g,1,none⟩=some (.pointer (some ⟨ga,0,none⟩))∧w'.cell? ⟨w.heap.size,0,none⟩=some (.int .u8 t)∧w'.cell? ⟨w.heap.size,1,none⟩=some (.int .u32 p)) ((refine FACTS.out _ ?_;with_reducible (first|exact Below.refl _ _|exact (Below.refl _ _).drew|exact hbel6|fail))) (first|(go_at_call 75;refine (HPL.out _ (Below.refl _ _).drew).mono ?_;rintro e w6 ⟨rfl,hbel6⟩;rw [HP.out])|fail)
    have c1:=(FACTS.out _ hbel6).2.2.2
    have hk6:=FACTS.out _ hbel6
    go_wp2_with fail
    go_region_held3 (fun w'=>w'.cell? ⟨g,0,none⟩=some (.int .i64 (n:Nat))∧w'.cell? ⟨g,1,none⟩=some (.pointer (some ⟨ga,0,none⟩))∧w'.cell? ⟨w.heap.size,0,none⟩=some (.int .u8 t)∧w'.cell? ⟨w.heap.size,1,none⟩=some (.int .u32 p)) ((refine FACTS.out _ ?_;with_reducible (first|exact hbel6|exact hbel6.drew|exact keepD hbel6 _|exact keepE hbel6 _|exact hbel7|exact keepC hbel7|exact keep7' (Below.size hbel6) hbel7|fail))) (first|(go_at_call 76;refine (HGE.out _ ?_).mono ?_;(with_reducible first |exact keepD hbel6 _|exact keepE hbel6 _);rintro e w7 ⟨rfl,hbel7,hb7⟩;have HNB:=Lib.hid (newA hb7);clear hb7;have n0:w7.cell? ⟨w6.heap.size,0,none⟩=some (.int .u8 0):=HNB.out.cell 0;have z0:=HNB.out.frozen 0;have n1:w7.cell? ⟨w6.heap.size,1,none⟩=some (.int .u8 0):=HNB.out.cell 1;have z1:=HNB.out.frozen 1;have n2:w7.cell? ⟨w6.heap.size,2,none⟩=some (.int .u8 0):=HNB.out.cell 2;have z2:=HNB.out.frozen 2;have n3:w7.cell? ⟨w6.heap.size,3,none⟩=some (.int .u8 0):=HNB.out.cell 3;have z3:=HNB.out.frozen 3;have n4:w7.cell? ⟨w6.heap.size,4,none⟩=some (.int .u32 0):=HNB.out.cell 4;have z4:=HNB.out.frozen 4;have n5:w7.cell? ⟨w6.heap.size,5,none⟩=some (.int .u8 0):=HNB.out.cell 5;have z5:=HNB.out.frozen 5;have n6:w7.cell? ⟨w6.heap.size,6,none⟩=some (.int .u32 0):=HNB.out.cell 6;have z6:=HNB.out.frozen 6;have q0:¬g=w6.heap.size:=(by have:=Below.size hbel6;omega);have q1:¬w.heap.size=w6.heap.size:=(by have:=Below.size hbel6;omega);rw [HRC.out];unfold getR;simp only [Rec.cells,Rec.nil,Edg.nil])|(go_at_call 76;refine (HGE.out _ ?_).mono ?_;(with_reducible first |exact hbel6.drew|exact hbel6);rintro e w7 ⟨rfl,hbel7,hb7⟩;clear hb7;have q0:¬g=w7.heap.size:=(by have:=hbel7.size;omega);have q1:¬w.heap.size=w7.heap.size:=(by have:=hbel7.size;omega);rw [HRC.out];unfold getR;simp only [Rec.cells,Rec.nil,Edg.nil])|fail)
    all_goals
     have c0:w7.cell? ⟨w.heap.size,0,none⟩=some (.int .u8 t):=(FACTS.out _ hbel7).2.2.1
     by_cases g1:rf=f
     ·have hx1:(rf==f)=true:=by simpa using g1
      by_cases g2:l≤rt
      ·have hx2:decide (l≤rt)=true:=by simpa using g2
       by_cases g3:t≤rt
       ·have hx3:decide (t≤rt)=true:=by simpa using g3
        clear g1 g2 g3
        go_wp2_with fail
        go_ret
        refine ⟨by rw [HR.out,hx1,hx2,hx3];rfl,?_⟩
        ·with_reducible first
          | exact HbW.out.trans ((keepC hbel7).mono HbW.out.size)
          | exact HbW.out.trans ((keep7' (Below.size hbel6) hbel7).mono HbW.out.size)
          | exact HbW.out.trans (hbel7.mono HbW.out.size)
       ·have hx3:decide (t≤rt)=false:=by simpa using g3
        clear g1 g2 g3
        go_wp2_with fail
        go_ret
        refine ⟨by rw [HR.out,hx1,hx2,hx3];rfl,?_⟩
        ·with_reducible first
          | exact HbW.out.trans ((keepC hbel7).mono HbW.out.size)
          | exact HbW.out.trans ((keep7' (Below.size hbel6) hbel7).mono HbW.out.size)
          | exact HbW.out.trans (hbel7.mono HbW.out.size)
      ·have hx2:decide (l≤rt)=false:=by simpa using g2
       clear g1 g2
       go_wp2_with fail
       go_ret
       refine ⟨by rw [HR.out,hx1,hx2];rfl,?_⟩
       ·with_reducible first
         | exact HbW.out.trans ((keepC hbel7).mono HbW.out.size)
         | exact HbW.out.trans ((keep7' (Below.size hbel6) hbel7).mono HbW.out.size)
         | exact HbW.out.trans (hbel7.mono HbW.out.size)
     ·have hx1:(rf==f)=false:=by simpa using g1
      clear g1
      go_wp2_with fail
      go_ret
      refine ⟨by rw [HR.out,hx1];rfl,?_⟩
      ·with_reducible first
        | exact HbW.out.trans ((keepC hbel7).mono HbW.out.size)
        | exact HbW.out.trans ((keep7' (Below.size hbel6) hbel7).mono HbW.out.size)
        | exact HbW.out.trans (hbel7.mono HbW.out.size)
end
end Go.Proofs.YtnlmlehcpngcgaaGreat
