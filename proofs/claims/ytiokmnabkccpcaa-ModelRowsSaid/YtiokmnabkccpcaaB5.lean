/- Digits by 2^32: plain laws. No program in sight. -/
import Derived.Test.YtiokmnabkccpcaaB1
set_option linter.unusedVariables false
set_option linter.unusedSimpArgs false
namespace Go.Proofs.Ytiokmnabkccpcaa.Kit
open Go.RowKit Go.Proofs.YtiokmnabkccpcaaW.PrintWords Go.Proofs.YtiokmnabkccpcaaW.PrintLast Go.Proofs.YtiokmnabkccpcaaW.PrintMore

/-- What digits are worth. -/
def val : List Int → Int
  | [] => 0
  | d :: r => d + 4294967296 * val r
def Digs (l : List Int) : Prop := ∀ d ∈ l, 0 ≤ d ∧ d < 4294967296
theorem Digs.nil : Digs [] := fun _ h => by cases h
theorem Digs.cons {d : Int} {l : List Int} (h0 : 0 ≤ d) (h1 : d < 4294967296) (h : Digs l) : Digs (d :: l) := fun x hx => by
  cases hx with
  | head => exact ⟨h0, h1⟩
  | tail _ hx => exact h x hx
theorem Digs.tail {d : Int} {l : List Int} (h : Digs (d :: l)) : Digs l := fun x hx => h x (List.mem_cons_of_mem _ hx)
theorem Digs.head {d : Int} {l : List Int} (h : Digs (d :: l)) : 0 ≤ d ∧ d < 4294967296 := h d List.mem_cons_self
theorem Digs.snoc {d : Int} {l : List Int} (h0 : 0 ≤ d) (h1 : d < 4294967296) (h : Digs l) : Digs (l ++ [d]) := fun x hx => by
  rcases List.mem_append.1 hx with hx | hx
  · exact h x hx
  · rw [List.mem_singleton.1 hx]; exact ⟨h0, h1⟩
theorem Digs.take {l : List Int} (h : Digs l) (n : Nat) : Digs (l.take n) := fun x hx => h x (List.mem_of_mem_take hx)
theorem Digs.at_ {l : List Int} (h : Digs l) (i : Nat) (hi : i < l.length) : 0 ≤ rd l i ∧ rd l i < 4294967296 := by
  have : rd l i = l[i] := by simp [rd, List.getD_eq_getElem?_getD, hi]
  rw [this]
  exact h _ (List.getElem_mem hi)
theorem val_nonneg {l : List Int} (h : Digs l) : 0 ≤ val l := by
  induction l with
  | nil => exact Int.le_refl _
  | cons d r ih => have := ih h.tail; have := h.head; rw [val]; omega
theorem val_append (a b : List Int) : val (a ++ b) = val a + 4294967296 ^ a.length * val b := by
  induction a with
  | nil => simp [val]
  | cons d r ih =>
    rw [List.cons_append, val, val, ih, List.length_cons, Int.pow_succ]
    rw [Int.mul_add, Int.mul_comm (4294967296 ^ r.length) 4294967296, Int.mul_assoc]
    omega
theorem val_snoc (a : List Int) (d : Int) : val (a ++ [d]) = val a + 4294967296 ^ a.length * d := by
  rw [val_append]; simp [val]
theorem val_take_succ (l : List Int) (k : Nat) (h : k < l.length) : val (l.take (k + 1)) = val (l.take k) + 4294967296 ^ k * rd l k := by
  have e : l.take (k + 1) = l.take k ++ [rd l k] := by
    rw [List.take_succ_eq_append_getElem h]
    simp [rd, List.getD_eq_getElem?_getD, h]
  rw [e, val_snoc, List.length_take, Nat.min_eq_left (Nat.le_of_lt h)]

/-- Without noughts at the end. -/
def trim : List Int → List Int
  | [] => []
  | d :: r => match trim r with
    | [] => if d = 0 then [] else [d]
    | x :: s => d :: x :: s
def Norm (l : List Int) : Prop := Digs l ∧ trim l = l
theorem trim_cons (d : Int) (r : List Int) : trim (d :: r) = if trim r = [] ∧ d = 0 then [] else d :: trim r := by
  rw [trim]
  cases h : trim r with
  | nil => by_cases hd : d = 0 <;> simp [hd]
  | cons x s => simp
theorem val_trim (l : List Int) : val (trim l) = val l := by
  induction l with
  | nil => rfl
  | cons d r ih =>
    rw [trim_cons]
    split
    · rename_i h
      have : val r = 0 := by rw [← ih, h.1]; rfl
      rw [val, val, this, h.2]; rfl
    · rw [val, val, ih]
theorem trim_snoc_zero (l : List Int) : trim (l ++ [0]) = trim l := by
  induction l with
  | nil => rfl
  | cons d r ih => rw [List.cons_append, trim_cons, trim_cons, ih]
theorem trim_snoc (l : List Int) (d : Int) (hd : d ≠ 0) : trim (l ++ [d]) = l ++ [d] := by
  induction l with
  | nil => simp [trim, hd]
  | cons x r ih =>
    rw [List.cons_append, trim_cons, ih]
    simp
theorem trim_idem (l : List Int) : trim (trim l) = trim l := by
  induction l with
  | nil => rfl
  | cons d r ih =>
    rw [trim_cons]
    split
    · rfl
    · rename_i h
      rw [trim_cons, ih, if_neg h]
theorem trim_mem {l : List Int} {x : Int} (h : x ∈ trim l) : x ∈ l := by
  induction l with
  | nil => exact h
  | cons d r ih =>
    rw [trim_cons] at h
    split at h
    · cases h
    · cases h with
      | head => exact List.mem_cons_self
      | tail _ h => exact List.mem_cons_of_mem _ (ih h)
theorem trim_prefix (l : List Int) : trim l = l.take (trim l).length := by
  induction l with
  | nil => rfl
  | cons d r ih =>
    rw [trim_cons]
    split
    · rfl
    · rw [List.length_cons, List.take_succ_cons, ← ih]
theorem trim_length_le (l : List Int) : (trim l).length ≤ l.length := by
  have := trim_prefix l
  have h := congrArg List.length this
  rw [List.length_take] at h
  omega
theorem trim_norm {l : List Int} (h : Digs l) : Norm (trim l) := ⟨fun x hx => h x (trim_mem hx), trim_idem l⟩
theorem Norm.nil : Norm [] := ⟨Digs.nil, rfl⟩
theorem Norm.tail {d : Int} {r : List Int} (h : Norm (d :: r)) : Norm r := by
  refine ⟨h.1.tail, ?_⟩
  have := h.2
  rw [trim_cons] at this
  split at this
  · cases this
  · injection this
theorem Norm.pos {l : List Int} (h : Norm l) (hl : l ≠ []) : 0 < val l := by
  induction l with
  | nil => exact absurd rfl hl
  | cons d r ih =>
    have hd := h.1.head
    have h0 := val_nonneg h.tail.1
    rw [val]
    by_cases hr : r = []
    · subst hr
      have := h.2
      have hne : d ≠ 0 := by
        rintro rfl
        simp [trim] at this
      simp only [val]
      omega
    · have := ih h.tail hr
      omega
theorem Norm.inj {a b : List Int} (ha : Norm a) (hb : Norm b) (h : val a = val b) : a = b := by
  induction a generalizing b with
  | nil =>
    cases b with
    | nil => rfl
    | cons x s => have := hb.pos (by simp); simp only [val] at h this; omega
  | cons d r ih =>
    cases b with
    | nil => have := ha.pos (by simp); simp only [val] at h this; omega
    | cons x s =>
      rw [val, val] at h
      have h1 := ha.1.head
      have h2 := hb.1.head
      have e1 : d = x := by omega
      have e2 : val r = val s := by omega
      rw [e1, ih ha.tail hb.tail e2]
/-- A greater length is a greater number. -/
theorem val_lt_pow {l : List Int} (h : Digs l) : val l < 4294967296 ^ l.length := by
  induction l with
  | nil => simp [val]
  | cons d r ih =>
    have := ih h.tail
    have := h.head
    rw [val, List.length_cons, Int.pow_succ]
    omega
theorem Norm.pow_le {l : List Int} (h : Norm l) (hl : l ≠ []) : (4294967296 : Int) ^ (l.length - 1) ≤ val l := by
  induction l with
  | nil => exact absurd rfl hl
  | cons d r ih =>
    by_cases hr : r = []
    · subst hr
      have := h.pos (by simp)
      simp at this ⊢
      omega
    · have h1 := ih h.tail hr
      have h2 := h.1.head
      rw [val, List.length_cons, Nat.add_sub_cancel]
      obtain ⟨k, hk⟩ : ∃ k, r.length = k + 1 := ⟨r.length - 1, by have := List.length_pos_iff.2 hr; omega⟩
      rw [hk, Nat.add_sub_cancel] at h1
      rw [hk, Int.pow_succ]
      omega
/-- A number: its digits and its sign. -/
def NOk (x : NI) : Prop := Norm x.f0 ∧ (x.f1 = true → x.f0 ≠ [])
def NV (x : NI) : Int := if x.f1 then -(val x.f0) else val x.f0
theorem NOk.inj {x y : NI} (hx : NOk x) (hy : NOk y) (h : NV x = NV y) : x = y := by
  obtain ⟨l, s⟩ := x
  obtain ⟨m, t⟩ := y
  have hl := val_nonneg hx.1.1
  have hm := val_nonneg hy.1.1
  simp only [NV, NOk] at *
  have hp : s = true → 0 < val l := fun e => hx.1.pos (hx.2 e)
  have hq : t = true → 0 < val m := fun e => hy.1.pos (hy.2 e)
  cases s <;> cases t <;> simp at *
  · exact hx.inj hy h
  · omega
  · omega
  · exact hx.1.inj hy.1 h
end Go.Proofs.Ytiokmnabkccpcaa.Kit
