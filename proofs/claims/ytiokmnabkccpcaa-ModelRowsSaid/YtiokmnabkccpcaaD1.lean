/- The model: read, where a number or a truth is asked. -/
import Derived.Test.YtiokmnabkccpcaaD0
set_option linter.unusedVariables false
set_option linter.unusedSimpArgs false
namespace Go.Proofs.Ytiokmnabkccpcaa.Kit
open Go.RowKit Go.Proofs.YtiokmnabkccpcaaW.PrintWords Go.Proofs.YtiokmnabkccpcaaW.PrintLast Go.Proofs.YtiokmnabkccpcaaW.PrintMore

theorem decTo_bound (r : ByteArray) : ∀ k, digsTo r k = true → 0 ≤ decTo r k ∧ decTo r k < 10 ^ k
  | 0, _ => by simp [decTo]
  | k + 1, h => by
    rw [digsTo, Bool.and_eq_true] at h
    have ih := decTo_bound r k h.1
    have hd := h.2
    unfold digitB at hd
    simp at hd
    rw [decTo, Int.pow_succ]
    omega
theorem len_of_bound {l : List Int} {k : Nat} (h : Norm l) (hv : val l < 10 ^ k) : l.length ≤ k + 1 := by
  rcases Nat.eq_zero_or_pos l.length with h0 | h0
  · omega
  · have h1 := h.pow_le (by rintro rfl; simp at h0)
    refine Classical.byContradiction fun hn => ?_
    have e1 : (10 : Nat) ^ k ≤ 4294967296 ^ k := Nat.pow_le_pow_left (by omega) k
    have e2 : (4294967296 : Nat) ^ k ≤ 4294967296 ^ (l.length - 1) := Nat.pow_le_pow_right (by omega) (by omega)
    have e3 : ((4294967296 ^ (l.length - 1) : Nat) : Int) < ((10 ^ k : Nat) : Int) := by
      rw [Int.natCast_pow, Int.natCast_pow]
      exact Int.lt_of_le_of_lt h1 hv
    have := Int.ofNat_lt.1 e3
    omega
theorem restS_size (s : ByteArray) : (restS s).size ≤ s.size := by
  unfold restS
  split
  · simp
  · exact Nat.le_refl _
theorem parse_len {s : ByteArray} {x : NI} {z : Int} (hp : parseS s = some z) (ok : NOk x) (hv : NV x = z) : x.f0.length ≤ s.size + 1 := by
  unfold parseS at hp
  by_cases hr : rightS s = true
  · rw [if_pos hr] at hp
    injection hp with hp
    have hd : digsTo (restS s) (restS s).size = true := by
      unfold rightS at hr
      rw [Bool.and_eq_true] at hr
      exact hr.2
    obtain ⟨b0, b1⟩ := decTo_bound _ _ hd
    have h0 := val_nonneg ok.1.1
    have hval : val x.f0 < 10 ^ (restS s).size := by
      unfold numS at hp
      unfold NV at hv
      split at hp <;> split at hv <;> omega
    have := len_of_bound ok.1 hval
    have := restS_size s
    omega
  · rw [if_neg hr] at hp
    cases hp

def readS (s : ByteArray) (sort : Int) : Option Vl :=
  if sort = 1 then (parseS s).map .num
  else if sort = 2 then (if s.toList = truS.toList then some (.tru true) else if s.toList = falS.toList then some (.tru false) else none)
  else none
/-- What read hands back. -/
def GivesRd (w : World) (r : Option Vl) : Ending → World → Prop := fun e w' => Below w.heap.size w w' ∧ ∃ v, e = .returned (.tuple #[v, .bool r.isSome]) ∧ ∀ u, r = some u → VlV w' v u

set_option maxHeartbeats 4000000 in
set_option maxRecDepth 100000 in
theorem read_int (s : ByteArray) (objs : Int) (w : World) (hs : s.size ≤ 1073741823) :
    Calls Try.prog 42 #[.string s, .int .i64 1, .int .i64 objs] w (GivesRd w (readS s 1)) := by
  have HF := Aside0.mk (show readS s 1 = (parseS s).map .num from rfl)
  go_enter Try.func42, Try.ntmps42
  go_wp2_with fail
  refine (parse_calls s w (by omega)).mono ?_
  rintro e w1 ⟨A, c, x, rfl, hx, hb⟩
  obtain ⟨q, hq⟩ : ∃ q, q = (parseS s).isSome := ⟨_, rfl⟩
  rw [← hq]
  have HX := Aside0.mk hx
  have HQ := Aside0.mk hq
  have HB := Aside0.mk hb
  clear hx hq hb
  unfold numV
  go_wp2_with (first | ((with_reducible refine gate_dst (N := 24) rfl ?_); (obtain ⟨w8, hw8⟩ : ∃ w8, w8 = w1.alloc (.cells #[.slice A x.f0.length c, .bool x.f1] 75) := ⟨_, rfl⟩); (obtain ⟨g8, hg8⟩ : ∃ g8, g8 = w1.heap.size := ⟨_, rfl⟩); rw [← hw8]; rw [← hg8]; (have hb8 : Below w1.heap.size w1 w8 := (by rw [hw8]; exact (Below.refl _ _).alloc (Nat.le_refl _) _)); (have HX8 := Aside0.mk (show w8.heap[g8]? = some (.cells #[.slice A x.f0.length c, .bool x.f1] 75 (0, 0)) from (by rw [hw8, hg8]; exact blk_new _ _))); have HG8 := Aside0.mk hg8; clear hw8 hg8) | ((with_reducible refine gate_dst (N := 24) rfl ?_); refine wpList_load_row rfl 75 _ rfl g8 rfl 75 #[.slice A x.f0.length c, .bool x.f1] (0, 0) _ HX8.out Try.underlying75 rfl size_NI ?_))
  go_ret2
  refine ⟨below_step HB.out hb8, _, by rw [HF.out, Option.isSome_map, ← HQ.out]; rfl, ?_⟩
  intro u hu
  rw [HF.out] at hu
  cases hp : parseS s with
  | none => rw [hp] at hu; cases hu
  | some z =>
    rw [hp] at hu
    injection hu with hu
    subst hu
    have hx := HX.out
    rw [hp] at hx
    refine ⟨A, c, x, rfl, hx.below hb8, ?_⟩
    have := parse_len hp hx.ok hx.val
    omega
end Go.Proofs.Ytiokmnabkccpcaa.Kit
