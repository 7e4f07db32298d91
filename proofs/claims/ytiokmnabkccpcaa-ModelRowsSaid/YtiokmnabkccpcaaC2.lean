/- Numbers as text: decimal digits, in plain Lean. -/
import Derived.Test.YtiokmnabkccpcaaB5
set_option linter.unusedVariables false
set_option linter.unusedSimpArgs false
namespace Go.Proofs.Ytiokmnabkccpcaa.Kit
open Go.RowKit Go.Proofs.YtiokmnabkccpcaaW.PrintWords Go.Proofs.YtiokmnabkccpcaaW.PrintLast Go.Proofs.YtiokmnabkccpcaaW.PrintMore

/-- What decimal digits (as bytes, the least first) are worth. -/
def dval : List Int → Int
  | [] => 0
  | d :: r => (d - 48) + 10 * dval r
def DD (l : List Int) : Prop := ∀ d ∈ l, 48 ≤ d ∧ d ≤ 57
theorem DD.nil : DD [] := fun _ h => by cases h
theorem DD.tail {d : Int} {l : List Int} (h : DD (d :: l)) : DD l := fun x hx => h x (List.mem_cons_of_mem _ hx)
theorem DD.head {d : Int} {l : List Int} (h : DD (d :: l)) : 48 ≤ d ∧ d ≤ 57 := h d List.mem_cons_self
theorem DD.snoc {d : Int} {l : List Int} (h0 : 48 ≤ d) (h1 : d ≤ 57) (h : DD l) : DD (l ++ [d]) := fun x hx => by
  rcases List.mem_append.1 hx with hx | hx
  · exact h x hx
  · rw [List.mem_singleton.1 hx]; exact ⟨h0, h1⟩
theorem DD.take {l : List Int} (h : DD l) (n : Nat) : DD (l.take n) := fun x hx => h x (List.mem_of_mem_take hx)
theorem dval_append (a b : List Int) : dval (a ++ b) = dval a + 10 ^ a.length * dval b := by
  induction a with
  | nil => simp [dval]
  | cons d r ih =>
    rw [List.cons_append, dval, dval, ih, List.length_cons, Int.pow_succ]
    rw [Int.mul_add, Int.mul_comm (10 ^ r.length) 10, Int.mul_assoc]
    omega
theorem dval_snoc (a : List Int) (d : Int) : dval (a ++ [d]) = dval a + 10 ^ a.length * (d - 48) := by
  rw [dval_append]; simp [dval]
theorem dval_nonneg {l : List Int} (h : DD l) : 0 ≤ dval l := by
  induction l with
  | nil => exact Int.le_refl _
  | cons d r ih => have := ih h.tail; have := h.head; rw [dval]; omega
/-- Is the last one no nought (or is there none)? -/
def LastOk : List Int → Prop
  | [] => True
  | [d] => d ≠ 48
  | _ :: d :: r => LastOk (d :: r)
theorem LastOk.tail {d : Int} {r : List Int} (h : LastOk (d :: r)) : LastOk r := by
  cases r with
  | nil => exact trivial
  | cons e s => exact h
theorem lastOk_snoc (l : List Int) (d : Int) (hd : d ≠ 48) : LastOk (l ++ [d]) := by
  induction l with
  | nil => exact hd
  | cons e r ih =>
    cases r with
    | nil => exact ih
    | cons f s => exact ih
theorem dval_pos {l : List Int} (h : DD l) (hl : LastOk l) (hne : l ≠ []) : 0 < dval l := by
  induction l with
  | nil => exact absurd rfl hne
  | cons d r ih =>
    have := h.head
    rw [dval]
    cases r with
    | nil => have : d ≠ 48 := hl; simp only [dval]; omega
    | cons e s => have := ih h.tail hl.tail (by simp); omega
/-- Decimal digits of a number, the least first. -/
def decF : Nat → Nat → List Int
  | 0, _ => []
  | f + 1, n => if n < 10 then [48 + (n : Int)] else (48 + ((n % 10 : Nat) : Int)) :: decF f (n / 10)
def decN (n : Nat) : List Int := decF (n + 1) n
theorem decF_eq (l : List Int) : ∀ (f : Nat), DD l → LastOk l → l ≠ [] → (dval l).toNat < f → decF f (dval l).toNat = l := by
  induction l with
  | nil => intro f _ _ h; exact absurd rfl h
  | cons d r ih =>
    intro f h hl hne hf
    cases f with
    | zero => omega
    | succ f =>
      have hd := h.head
      have hr := dval_nonneg h.tail
      rw [decF]
      cases r with
      | nil =>
        have hdv : dval [d] = d - 48 := by simp [dval]
        rw [hdv, if_pos (by omega)]
        congr 1
        omega
      | cons e s =>
        have hp := dval_pos h.tail hl.tail (by simp)
        have hdv : dval (d :: e :: s) = (d - 48) + 10 * dval (e :: s) := rfl
        rw [hdv] at hf ⊢
        obtain ⟨v, hv⟩ : ∃ v, v = dval (e :: s) := ⟨_, rfl⟩
        have hih := ih f h.tail hl.tail (by simp)
        rw [← hv] at hf hp hih ⊢
        rw [if_neg (by omega), show ((d - 48) + 10 * v).toNat / 10 = v.toNat by omega, hih (by omega)]
        congr 1
        omega
theorem decN_eq {l : List Int} (h : DD l) (hl : LastOk l) (hne : l ≠ []) : decN (dval l).toNat = l := decF_eq l _ h hl hne (by omega)
/-- A number's text. -/
def decS (z : Int) : ByteArray := strOfNums ((if z < 0 then [45] else []) ++ (decN z.natAbs).reverse)
/-- How long a number's text may be. -/
theorem dig_bound (k L : Nat) (v : Int) (h1 : (10 : Int) ^ k ≤ v) (h2 : v < (4294967296 : Int) ^ L) : k ≤ 32 * L := by
  refine Classical.byContradiction fun hn => ?_
  have e1 : (4294967296 : Nat) ^ L = 2 ^ (32 * L) := by rw [Nat.pow_mul]
  have e2 : (2 : Nat) ^ (32 * L) ≤ 2 ^ k := Nat.pow_le_pow_right (by omega) (by omega)
  have e3 : (2 : Nat) ^ k ≤ 10 ^ k := Nat.pow_le_pow_left (by omega) k
  have e4 : ((10 ^ k : Nat) : Int) < ((4294967296 ^ L : Nat) : Int) := by
    rw [Int.natCast_pow, Int.natCast_pow]
    exact Int.lt_of_le_of_lt h1 h2
  have := Int.ofNat_lt.1 e4
  omega
/-- A round of the long division. -/
theorem div_round (ls cur : List Int) (m : Nat) (n d : Int) (hm : m < ls.length) (hl : cur.length = ls.length) (hd : rd ls m = d)
    (hv : val (ls.drop (m + 1)) = 1000000000 * val (cur.drop (m + 1)) + n) :
    val (ls.drop m) = 1000000000 * val ((cur.set m ((n * 4294967296 + d) / 1000000000)).drop m) + (n * 4294967296 + d) % 1000000000 := by
  have hm' : m < cur.length := by omega
  have e1 : ls.drop m = rd ls m :: ls.drop (m + 1) := by
    rw [List.drop_eq_getElem_cons hm]; simp [rd, List.getD_eq_getElem?_getD, hm]
  have e2 : (cur.set m ((n * 4294967296 + d) / 1000000000)).drop m = ((n * 4294967296 + d) / 1000000000) :: cur.drop (m + 1) := by
    rw [List.drop_eq_getElem_cons (by rw [List.length_set]; exact hm')]
    rw [List.getElem_set_self, List.drop_set]
    simp
  rw [e1, e2, val, val, hv, hd]
  have := Int.mul_ediv_add_emod (n * 4294967296 + d) 1000000000
  omega
theorem quo_bound {n d : Int} (h0 : 0 ≤ n) (h1 : n < 1000000000) (h2 : 0 ≤ d) (h3 : d < 4294967296) : 0 ≤ (n * 4294967296 + d) / 1000000000 ∧ (n * 4294967296 + d) / 1000000000 < 4294967296 := by omega
end Go.Proofs.Ytiokmnabkccpcaa.Kit
