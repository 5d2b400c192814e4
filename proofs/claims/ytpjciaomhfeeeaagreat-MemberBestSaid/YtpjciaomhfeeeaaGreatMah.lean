/- Members: what is left of an edge, level by level: the program's way. Members: the program's way, level by level, and the document's: the same. -/
import Derived.Test.YtpjciaomhfeeeaaGreatMc
section
namespace Go.Proofs.YtpjciaomhfeeeaaGreat
open Go Go.RowKit
set_option linter.unusedSimpArgs false
set_option linter.unusedVariables false

/-- what is left of an edge at a level -/
structure Rst where
  inn : Bool
  node : Bool
  r : Rec
  tag : Int
  l : Int
def Rst.nil : Rst := ⟨false, false, Rec.nil, 0, 0⟩
def Rst.cells (x : Rst) : List Value := [.bool x.inn, .bool x.node, .int .u8 x.r.form, .int .u8 x.r.top, .int .u8 x.r.bot, .int .u8 x.r.lo.tag, .int .u32 x.r.lo.pos, .int .u8 x.r.hi.tag, .int .u32 x.r.hi.pos, .int .u8 x.tag, .int .u8 x.l]
/-- what an edge has at a level -/
def atR (cs : List (Option Rec)) (e : Edg) (l : Int) : Rst := if e.pos = 0 then .nil else ⟨true, (recAt cs e.pos).isSome, (recAt cs e.pos).getD Rec.nil, e.tag, l⟩
/-- must a level that is left out be 0? -/
def zeroR (f : Int) (x : Rst) : Bool := f == 2 || f == 4 || (f == 5 && decide (x.tag ≤ x.l))
def topR (n : Int) (x : Rst) : Int := if x.node then x.r.top else n
/-- what is left when the level is 0, or 1 -/
def halfR (cs : List (Option Rec)) (n f : Int) (x : Rst) (one : Bool) : Rst :=
  if x.l < topR n x then (if zeroR f x && one then .nil else { x with l := x.l + 1 })
  else if one && (x.r.top == x.r.bot || x.r.form == 3) then atR cs x.r.hi (x.l + 1)
  else if x.r.top == x.r.bot then atR cs x.r.lo (x.l + 1)
  else { x with l := x.l + 1, r := { x.r with top := x.r.top + 1 } }
/-- members of what is left, as numbers by levels: m levels are to come -/
def memR (cs : List (Option Rec)) (n f : Int) : Nat → Rst → Nat → List Nat
  | 0, x, y => if x.inn then [y] else []
  | m + 1, x, y => if x.inn then memR cs n f m (halfR cs n f x false) (2 * y) ++ memR cs n f m (halfR cs n f x true) (2 * y + 1) else []
/-- what is left may be so, at a level -/
structure RstOk (n : Int) (l : Int) (x : Rst) : Prop where
  l : x.inn = true → x.l = l
  wf : x.r.Wf
  tag : 0 ≤ x.tag ∧ x.tag ≤ 255
  top : x.node = true → x.r.top ≤ x.r.bot ∧ x.r.bot < n
  ln : 0 ≤ x.l ∧ x.l ≤ n
theorem RstOk.nil {n l : Int} (hn : 0 ≤ n) : RstOk n l .nil := ⟨fun h => (by cases h), Rec.nil_wf, by decide, fun h => (by cases h), ⟨by decide, hn⟩⟩
theorem atR_ok {cs : List (Option Rec)} {n l : Int} {e : Edg} (hn : 0 ≤ n) (he : e.Wf) (hl : 0 ≤ l ∧ l ≤ n) (hcs : ∀ id r, recAt cs id = some r → r.Wf ∧ r.top ≤ r.bot ∧ r.bot < n) : RstOk n l (atR cs e l) := by
  unfold atR
  split
  · exact RstOk.nil hn
  · cases h : recAt cs e.pos with
    | none => exact ⟨fun _ => rfl, Rec.nil_wf, ⟨he.1, he.2.1⟩, fun h => (by cases h), hl⟩
    | some r => exact ⟨fun _ => rfl, (hcs _ _ h).1, ⟨he.1, he.2.1⟩, fun _ => (hcs _ _ h).2, hl⟩
theorem halfR_ok {cs : List (Option Rec)} {n f l : Int} {x : Rst} {one : Bool} (hn : 0 ≤ n) (hn16 : n ≤ 16) (h : RstOk n l x) (hi : x.inn = true) (hl : l < n) (hcs : ∀ id r, recAt cs id = some r → r.Wf ∧ r.top ≤ r.bot ∧ r.bot < n) : RstOk n (l + 1) (halfR cs n f x one) := by
  have h1 := h.l hi
  have h2 := h.ln
  unfold halfR
  split
  · split
    · exact RstOk.nil hn
    · exact ⟨fun _ => by simp only; omega, h.wf, h.tag, h.top, by simp only; omega⟩
  · rename_i ht
    have hnode : x.node = true := by
      cases hx : x.node with
      | true => rfl
      | false => unfold topR at ht; rw [hx] at ht; simp at ht; omega
    obtain ⟨w1, w2, w3, w4, w5⟩ := h.wf
    split
    · rw [h1]; exact atR_ok hn w5 (by omega) hcs
    · split
      · rw [h1]; exact atR_ok hn w4 (by omega) hcs
      · rename_i hne
        have ht2 := h.top hnode
        simp only [beq_iff_eq] at hne
        refine ⟨fun _ => by simp only; omega, ⟨w1, by simp only; omega, w3, w4, w5⟩, h.tag, fun _ => by simp only; omega, by simp only; omega⟩
theorem Rst.cells_len (x : Rst) : x.cells.length = 11 := rfl
end Go.Proofs.YtpjciaomhfeeeaaGreat
end

section
namespace Go.Proofs.YtpjciaomhfeeeaaGreat
open Go Go.RowKit
set_option linter.unusedSimpArgs false
set_option linter.unusedVariables false

/-- is an assignment by levels a member of what is left? m levels are to come, the next is l -/
def inR (cs : List (Option Rec)) (n f : Int) (b : Nat → Bool) : Nat → Rst → Nat → Bool
  | 0, x, _ => x.inn
  | m + 1, x, l => x.inn && inR cs n f b m (halfR cs n f x (b l)) (l + 1)
/-- some level of a record is 1 -/
def someD (f : Int) (b : Nat → Bool) (t o : Nat) : Bool := if f = 3 then (List.range (o + 1 - t)).any (fun k => b (t + k)) else b o
/-- the document's: does an edge hold an assignment, from a level on? -/
def holdsD (cs : List (Option Rec)) (n f : Int) (b : Nat → Bool) : Nat → Edg → Nat → Bool
  | 0, _, _ => true
  | k + 1, e, a =>
    if e.pos = 0 then false
    else match recAt cs e.pos with
      | none => if n ≤ a then true else if (f == 2 || f == 4 || (f == 5 && decide (e.tag ≤ a))) && b a then false else holdsD cs n f b k e (a + 1)
      | some r => if (a : Int) < r.top then (if (f == 2 || f == 4 || (f == 5 && decide (e.tag ≤ a))) && b a then false else holdsD cs n f b k e (a + 1))
        else holdsD cs n f b k (if someD f b r.top.toNat r.bot.toNat then r.hi else r.lo) (r.bot.toNat + 1)
/-- records that lead on rightly -/
def Chain (cs : List (Option Rec)) (n : Int) : Prop := ∀ id r, recAt cs id = some r → 0 ≤ r.top ∧ r.top ≤ r.bot ∧ r.bot < n ∧
  (∀ r', recAt cs r.lo.pos = some r' → r'.form = r.form ∧ r.bot + 1 ≤ r'.top) ∧ ∀ r', recAt cs r.hi.pos = some r' → r'.form = r.form ∧ r.bot + 1 ≤ r'.top
def Fit (cs : List (Option Rec)) (f : Int) (e : Edg) (l : Nat) : Prop := ∀ r, recAt cs e.pos = some r → r.form = f ∧ (l : Int) ≤ r.top
theorem Fit.up {cs : List (Option Rec)} {f : Int} {e : Edg} {l : Nat} (h : Fit cs f e l) (hl : ∀ r, recAt cs e.pos = some r → (l : Int) < r.top) : Fit cs f e (l + 1) := fun r hr => ⟨(h r hr).1, by have := hl r hr; omega⟩

section
variable {cs : List (Option Rec)} {n f : Int} {b : Nat → Bool}
theorem inR_nil (m l : Nat) : inR cs n f b m .nil l = false := by cases m <;> simp [inR, Rst.nil]
theorem atR_inn {e : Edg} (h : e.pos ≠ 0) (l : Int) : atR cs e l = ⟨true, (recAt cs e.pos).isSome, (recAt cs e.pos).getD Rec.nil, e.tag, l⟩ := by unfold atR; rw [if_neg h]
theorem atR_zero {e : Edg} (h : e.pos = 0) (l : Int) : atR cs e l = .nil := by unfold atR; rw [if_pos h]
/-- a level that is left out -/
theorem half_out {e : Edg} (h : e.pos ≠ 0) {l : Nat} (one : Bool) (ht : ∀ r, recAt cs e.pos = some r → (l : Int) < r.top) (hl : (l : Int) < n) :
    halfR cs n f (atR cs e (l : Nat)) one = if (f == 2 || f == 4 || (f == 5 && decide (e.tag ≤ (l : Int)))) && one then .nil else atR cs e ((l + 1 : Nat) : Int) := by
  rw [atR_inn h, atR_inn h]
  unfold halfR
  rw [if_pos]
  · unfold zeroR
    simp only
    split
    · rfl
    · simp
  · unfold topR
    cases hr : recAt cs e.pos with
    | none => simpa using hl
    | some r => simpa using ht r hr
theorem inR_out {e : Edg} (h : e.pos ≠ 0) {m l : Nat} (ht : ∀ r, recAt cs e.pos = some r → (l : Int) < r.top) (hl : (l : Int) < n) :
    inR cs n f b (m + 1) (atR cs e (l : Nat)) l = if (f == 2 || f == 4 || (f == 5 && decide (e.tag ≤ (l : Int)))) && b l then false else inR cs n f b m (atR cs e ((l + 1 : Nat) : Int)) (l + 1) := by
  have hi : (atR cs e (l : Nat)).inn = true := by rw [atR_inn h]
  rw [inR, hi, Bool.true_and, half_out h (b l) ht hl]
  split
  · exact inR_nil _ _
  · rfl
/-- levels that play no part -/
theorem inR_skip (hf : f = 3) {e : Edg} : ∀ (d m l : Nat), (∀ r, recAt cs e.pos = some r → ((l + d : Nat) : Int) ≤ r.top) → ((l + d : Nat) : Int) ≤ n → inR cs n f b (d + m) (atR cs e (l : Nat)) l = inR cs n f b m (atR cs e ((l + d : Nat) : Int)) (l + d)
  | 0, m, l, _, _ => by rw [Nat.zero_add, Nat.add_zero]
  | d + 1, m, l, ht, hn => by
    by_cases h : e.pos = 0
    · rw [atR_zero h, atR_zero h, inR_nil, inR_nil]
    · rw [show d + 1 + m = (d + m) + 1 by omega, inR_out h (fun r hr => by have := ht r hr; omega) (by omega)]
      rw [if_neg (by subst hf; simp)]
      rw [inR_skip hf d m (l + 1) (fun r hr => by have := ht r hr; omega) (by omega)]
      rw [show l + 1 + d = l + (d + 1) by omega]
theorem someD_three {t o : Nat} (hf : f = 3) (h : t < o) : someD f b t o = (b t || someD f b (t + 1) o) := by
  unfold someD
  rw [if_pos hf, if_pos hf, show o + 1 - t = (o + 1 - (t + 1)) + 1 by omega, List.range_succ_eq_map, List.any_cons, List.any_map, Nat.add_zero]
  congr 2
  funext k
  simp only [Function.comp_apply]
  congr 1
  omega
theorem someD_last {o : Nat} : someD f b o o = b o := by
  unfold someD
  split
  · rw [show o + 1 - o = 1 by omega]; simp
  · rfl
/-- a record's levels -/
theorem inR_node {r : Rec} (hr3 : r.form = f) (o m : Nat) (ho : r.bot = (o : Int)) (hm : ((o + 1 + m : Nat) : Int) = n) (hhi : ∀ r', recAt cs r.hi.pos = some r' → r.bot + 1 ≤ r'.top) (tag : Int) :
    ∀ (d t : Nat), t + d = o → inR cs n f b (d + 1 + m) ⟨true, true, { r with top := (t : Int) }, tag, (t : Int)⟩ t = inR cs n f b m (atR cs (if someD f b t o then r.hi else r.lo) ((o + 1 : Nat) : Int)) (o + 1)
  | 0, t, h => by
    obtain rfl : t = o := by omega
    rw [show 0 + 1 + m = m + 1 by omega, inR, Bool.true_and, someD_last]
    unfold halfR topR
    simp only [ho]
    rw [if_neg (by simp)]
    cases b t <;> simp
  | d + 1, t, h => by
    rw [show d + 1 + 1 + m = (d + 1 + m) + 1 by omega, inR, Bool.true_and]
    unfold halfR topR
    simp only [ho]
    rw [if_neg (by simp)]
    have hne : ((t : Int) == (o : Int)) = false := by rw [beq_eq_false_iff_ne]; omega
    rw [hne, Bool.false_or, hr3]
    by_cases hf : f = 3
    · rw [someD_three hf (by omega)]
      cases hb : b t with
      | true =>
        rw [if_pos (by subst hf; rfl), Bool.true_or, if_pos rfl]
        have := inR_skip (cs := cs) (n := n) (b := b) hf (e := r.hi) (d + 1) m (t + 1) (fun r' hr' => by have := hhi r' hr'; omega) (by omega)
        rw [show t + 1 + (d + 1) = o + 1 by omega] at this
        exact this
      | false =>
        rw [if_neg (by simp), if_neg (by simp), Bool.false_or]
        have := inR_node hr3 o m ho hm hhi tag d (t + 1) (by omega)
        rw [hr3, ho] at this
        exact this
    · rw [if_neg (by simp [hf]), if_neg (by simp)]
      have := inR_node hr3 o m ho hm hhi tag d (t + 1) (by omega)
      have hs : someD f b (t + 1) o = someD f b t o := by unfold someD; rw [if_neg hf, if_neg hf]
      rw [hs, hr3, ho] at this
      exact this
/-- the two ways are the same -/
theorem inR_holds (hc : Chain cs n) : ∀ (m l k : Nat) (e : Edg), ((l + m : Nat) : Int) = n → Fit cs f e l → m < k → inR cs n f b m (atR cs e (l : Nat)) l = holdsD cs n f b k e l := by
  intro m
  induction m using Nat.strongRecOn with
  | _ m ih =>
    intro l k e hn hF hk
    obtain ⟨k, rfl⟩ : ∃ k', k = k' + 1 := ⟨k - 1, by omega⟩
    rw [holdsD]
    by_cases h : e.pos = 0
    · rw [if_pos h, atR_zero h, inR_nil]
    · rw [if_neg h]
      cases hr : recAt cs e.pos with
      | none =>
        simp only
        cases m with
        | zero => rw [if_pos (by omega), inR, atR_inn h]
        | succ m =>
          rw [if_neg (by omega), inR_out h (fun r hr' => by rw [hr] at hr'; cases hr') (by omega)]
          split
          · rfl
          · exact ih m (by omega) (l + 1) k e (by omega) (hF.up fun r hr' => by rw [hr] at hr'; cases hr') (by omega)
      | some r =>
        simp only
        obtain ⟨c1, c2, c3, c4, c5⟩ := hc _ _ hr
        obtain ⟨f1, f2⟩ := hF r hr
        by_cases ht : (l : Int) < r.top
        · rw [if_pos ht]
          obtain ⟨m, rfl⟩ : ∃ m', m = m' + 1 := ⟨m - 1, by omega⟩
          have hlt : ∀ r', recAt cs e.pos = some r' → (l : Int) < r'.top := fun r' hr' => by rw [hr] at hr'; injection hr' with hr'; rw [← hr']; exact ht
          rw [inR_out h hlt (by omega)]
          split
          · rfl
          · exact ih m (by omega) (l + 1) k e (by omega) (hF.up hlt) (by omega)
        · rw [if_neg ht]
          obtain ⟨o, ho⟩ := Int.eq_ofNat_of_zero_le (show 0 ≤ r.bot by omega)
          obtain ⟨m', hm'⟩ : ∃ m', m = (o - l) + 1 + m' := ⟨m - (o - l) - 1, by omega⟩
          have htl : r.top = (l : Int) := by omega
          have hx : atR cs e (l : Nat) = ⟨true, true, { r with top := (l : Int) }, e.tag, (l : Int)⟩ := by
            rw [atR_inn h, hr, ← htl]; rfl
          rw [hx, hm', inR_node f1 o m' ho (by omega) (fun r' hr' => (c5 r' hr').2) e.tag (o - l) l (by omega)]
          rw [htl, ho, Int.toNat_natCast]
          rw [show (Int.toNat (o : Int)) = o from rfl]
          refine ih m' (by omega) (o + 1) k _ (by omega) ?_ (by omega)
          split
          · exact fun r' hr' => ⟨by rw [(c5 r' hr').1, f1], by have := (c5 r' hr').2; omega⟩
          · exact fun r' hr' => ⟨by rw [(c4 r' hr').1, f1], by have := (c4 r' hr').2; omega⟩
/-- the members in order -/
theorem memR_filter : ∀ (m : Nat) (x : Rst) (y l : Nat), memR cs n f m x y = ((List.range (2 ^ m)).filter (fun z => inR cs n f (fun k => z.testBit (l + m - 1 - k)) m x l)).map (y * 2 ^ m + ·)
  | 0, x, y, l => by cases hx : x.inn <;> simp [memR, inR, hx]
  | m + 1, x, y, l => by
    rw [memR]
    by_cases hx : x.inn = true
    · rw [if_pos hx, memR_filter m _ (2 * y) (l + 1), memR_filter m _ (2 * y + 1) (l + 1)]
      rw [show 2 ^ (m + 1) = 2 ^ m + 2 ^ m by rw [Nat.pow_succ]; omega, List.range_add, List.filter_append, List.map_append]
      have key : ∀ (z : Nat) (b : Bool), z < 2 ^ m → (z + (if b then 2 ^ m else 0)).testBit m = b ∧ ∀ j, j < m → (z + (if b then 2 ^ m else 0)).testBit j = z.testBit j := by
        intro z b hz
        cases b with
        | false => exact ⟨by simpa using Nat.testBit_lt_two_pow hz, fun j _ => by simp⟩
        | true =>
          simp only [if_true]
          rw [Nat.add_comm]
          exact ⟨by rw [Nat.testBit_two_pow_add_eq, Nat.testBit_lt_two_pow hz]; rfl, fun j hj => Nat.testBit_two_pow_add_gt hj z⟩
      have cong : ∀ (m' : Nat) (b b' : Nat → Bool) (x : Rst) (l' : Nat), (∀ k, l' ≤ k → k < l' + m' → b k = b' k) → inR cs n f b m' x l' = inR cs n f b' m' x l' := by
        intro m'
        induction m' with
        | zero => intro b b' x l' _; rfl
        | succ m' ih => intro b b' x l' h; rw [inR, inR, h l' (by omega) (by omega), ih b b' _ (l' + 1) (fun k h1 h2 => h k (by omega) (by omega))]
      have part : ∀ (b : Bool) (z : Nat), z < 2 ^ m → inR cs n f (fun k => (z + (if b then 2 ^ m else 0)).testBit (l + (m + 1) - 1 - k)) (m + 1) x l = inR cs n f (fun k => z.testBit (l + 1 + m - 1 - k)) m (halfR cs n f x b) (l + 1) := by
        intro b z hz
        obtain ⟨k1, k2⟩ := key z b hz
        rw [inR, hx, Bool.true_and, show l + (m + 1) - 1 - l = m by omega, k1]
        refine cong m _ _ _ _ fun k h1 h2 => ?_
        rw [k2 _ (by omega), show l + (m + 1) - 1 - k = l + 1 + m - 1 - k by omega]
      congr 1
      · rw [show 2 * y * 2 ^ m = y * (2 ^ m + 2 ^ m) by rw [← Nat.two_mul, Nat.mul_comm 2 y, Nat.mul_assoc]]
        congr 1
        refine List.filter_congr fun z hz => ?_
        have := part false z (List.mem_range.1 hz)
        simpa using this.symm
      · rw [List.filter_map, List.map_map]
        have e : ∀ z, (fun x => y * (2 ^ m + 2 ^ m) + x) (2 ^ m + z) = (2 * y + 1) * 2 ^ m + z := by
          intro z
          simp only
          rw [Nat.add_mul, Nat.one_mul, Nat.mul_add, Nat.mul_comm 2 y, Nat.mul_assoc, Nat.two_mul, Nat.mul_add]
          omega
        have : ((fun x => y * (2 ^ m + 2 ^ m) + x) ∘ fun x => 2 ^ m + x) = fun z => (2 * y + 1) * 2 ^ m + z := funext e
        rw [this]
        congr 1
        refine List.filter_congr fun z hz => ?_
        have := part true z (List.mem_range.1 hz)
        simp only [if_true] at this
        simp only [Function.comp_apply]
        rw [Nat.add_comm (2 ^ m) z]
        exact this.symm
    · rw [if_neg hx]
      rw [List.filter_eq_nil_iff.2 (fun z _ => by rw [inR, Bool.eq_false_iff.2 hx]; simp), List.map_nil]
end
end Go.Proofs.YtpjciaomhfeeeaaGreat
end
