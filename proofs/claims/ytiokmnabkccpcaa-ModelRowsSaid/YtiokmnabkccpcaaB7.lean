/- Numbers: num.plus, walked. -/
import Derived.Test.YtiokmnabkccpcaaB6
set_option linter.unusedVariables false
set_option linter.unusedSimpArgs false
namespace Go.Proofs.Ytiokmnabkccpcaa.Kit
open Go.RowKit Go.Proofs.YtiokmnabkccpcaaW.PrintWords Go.Proofs.YtiokmnabkccpcaaW.PrintLast Go.Proofs.YtiokmnabkccpcaaW.PrintMore
attribute [local go_sem] min2_int min_two max2_int max_two

theorem info_u32 : (Try.prog.info? 102).map (fun i => (i.zero, i.size, i.bytes)) = some (some (.int .u32 0), 1, 4) := by kernel_rfl

/-- A new row of digits is handed back. -/
def GivesRow (w : World) (p : List Int → Prop) : Ending → World → Prop := fun e w' => ∃ (xs : List Int) (A : Option Addr) (c : Nat), e = .returned (.slice A xs.length c) ∧ xs.length ≤ c ∧ (Kd.int .u32).C w' A xs.length xs ∧ p xs ∧ Below w.heap.size w w'
theorem own_givesRow {w W : World} {v : Value} {xs : List Int} {p : List Int → Prop} (h : W.ownsRow w.heap.size 102 1 v xs.length (nums .u32 xs)) (hp : p xs) (hb : Below w.heap.size w W) : GivesRow w p (.returned v) W := by
  obtain ⟨A, c, rfl, hr⟩ := own_reads h
  have hc := Kd.R_of_own (h1 := fun _ => rfl) (enc := Value.int .u32) (ok := fun _ => True) h (fun _ _ => trivial)
  obtain ⟨A', c', e, hl, hC⟩ := Kd.R_reads hc
  injection e with e1 e2 e3
  subst e1 e3
  exact ⟨xs, A, c, rfl, hl, hC, hp, hb⟩

theorem carry_step {va vb vx B n s : Int} {da db : Int} (h : vx + B * n = va + vb) (hs : s = n + da + db) : vx + B * (s % 4294967296) + B * 4294967296 * (s / 4294967296) = (va + B * da) + (vb + B * db) := by
  have e : s % 4294967296 + 4294967296 * (s / 4294967296) = s := Int.emod_add_mul_ediv s _
  have : B * (s % 4294967296) + B * 4294967296 * (s / 4294967296) = B * s := by
    rw [Int.mul_assoc, ← Int.mul_add, e]
  rw [hs, Int.mul_add, Int.mul_add] at this
  rw [hs]
  omega
/-- The digit at a place, 0 beyond the end. -/
theorem val_take_any (l : List Int) (k : Nat) : val (l.take (k + 1)) = val (l.take k) + 4294967296 ^ k * rd l k := by
  by_cases h : k < l.length
  · exact val_take_succ l k h
  · have e : rd l (k : Int) = 0 := by simp [rd, List.getD_eq_getElem?_getD, List.getElem?_eq_none (by omega : l.length ≤ k)]
    rw [List.take_of_length_le (by omega), List.take_of_length_le (by omega), e]
    omega
theorem rd_any {l : List Int} (h : Digs l) (k : Nat) : 0 ≤ rd l k ∧ rd l k < 4294967296 := by
  by_cases hk : k < l.length
  · exact h.at_ k hk
  · have e : rd l (k : Int) = 0 := by simp [rd, List.getD_eq_getElem?_getD, List.getElem?_eq_none (by omega : l.length ≤ k)]
    omega
theorem rd_beyond {l : List Int} (k : Nat) (hk : ¬ k < l.length) : rd l k = 0 := by simp [rd, List.getD_eq_getElem?_getD, List.getElem?_eq_none (by omega : l.length ≤ k)]

theorem pow_mono {a b : Nat} (h : a ≤ b) : (4294967296 : Int) ^ a ≤ 4294967296 ^ b := by
  have : (4294967296 : Nat) ^ a ≤ 4294967296 ^ b := Nat.pow_le_pow_right (by omega) h
  rw [show (4294967296 : Int) = ((4294967296 : Nat) : Int) from rfl, ← Int.natCast_pow, ← Int.natCast_pow]
  exact Int.ofNat_le.2 this
theorem plus_end {a b xs : List Int} {m : Nat} {n : Int} (ha : Digs a) (hb : Digs b) (hx : Digs xs) (hma : a.length ≤ m) (hmb : b.length ≤ m) (hn0 : 0 ≤ n) (hn1 : n ≤ 1)
    (h : val xs + 4294967296 ^ (m + 1) * n = val (a.take (m + 1)) + val (b.take (m + 1))) : val xs = val a + val b := by
  rw [List.take_of_length_le (by omega), List.take_of_length_le (by omega)] at h
  have h1 := val_lt_pow ha
  have h2 := val_lt_pow hb
  have h3 := pow_mono hma
  have h4 := pow_mono hmb
  have h5 := val_nonneg hx
  have h6 : (0 : Int) < 4294967296 ^ m := Int.pow_pos (by omega)
  have : n = 0 ∨ n = 1 := by omega
  rcases this with rfl | rfl
  · omega
  · rw [Int.pow_succ] at h; omega

set_option maxHeartbeats 4000000 in
set_option maxRecDepth 100000 in
theorem plus_calls (a b : List Int) (A B : Option Addr) (c d : Nat) (w : World) (hA : (Kd.int .u32).C w A a.length a) (hB : (Kd.int .u32).C w B b.length b) (ha : Digs a) (hb : Digs b) (hla : a.length ≤ 1099511627776) (hlb : b.length ≤ 1099511627776) :
    Calls Try.prog 55 #[.slice A a.length c, .slice B b.length d] w (GivesRow w fun xs => Digs xs ∧ val xs = val a + val b ∧ xs.length = max a.length b.length + 1) := by
  have HA := Aside0.mk hA
  have HB := Aside0.mk hB
  have DA := Aside0.mk ha
  have DB := Aside0.mk hb
  obtain ⟨m, hm⟩ : ∃ m, m = max a.length b.length := ⟨_, rfl⟩
  have hma : a.length ≤ m := by omega
  have hmb : b.length ≤ m := by omega
  have hml : m ≤ 1099511627776 := by omega
  have hm1 : m ≤ a.length ∨ m ≤ b.length := by omega
  have HM := Aside0.mk hm
  have HM1 := Aside0.mk hm1
  clear hA hB ha hb hm hm1
  have hmx : (if (a.length : Int) < (b.length : Int) then (b.length : Int) else (a.length : Int)) = (m : Int) := by have := HM.out; split <;> omega
  have HMX := Aside0.mk hmx
  clear hmx
  by_cases hab : a.length < b.length
  · obtain rfl : m = b.length := by have := HM1.out; omega
    go_enter Try.func55, Try.ntmps55
    go_wp2
    go_loopg [5, 6, 14] (b.length + 1) (fun gg v5 v6 v14 wr => ∃ (i : Nat) (n : Int) (xs : List Int), i ≤ b.length + 1 ∧ b.length + 1 - i ≤ gg ∧ v14 = .int .i64 i ∧ v6 = .int .u64 n ∧ 0 ≤ n ∧ n ≤ 1 ∧ Aside0 (xs.length = i ∧ Digs xs ∧ val xs + 4294967296 ^ i * n = val (a.take i) + val (b.take i)) ∧ Aside0 (wr.ownsRow w.heap.size 102 1 v5 xs.length (nums .u32 xs)) ∧ Aside0 (Below w.heap.size w wr))
    case atStart => exact ⟨0, 0, [], Nat.zero_le _, by omega, rfl, rfl, by omega, by omega, ⟨rfl, Digs.nil, by simp [val]⟩, ⟨own_nil _ _ _ _⟩, ⟨Below.refl _ _⟩⟩
    case round =>
      obtain ⟨i, n, xs, hi, hgg, rfl, rfl, hn0, hn1, HS, HO, BW⟩ := hrel
      by_cases hlt : i < b.length + 1
      · obtain ⟨a0, a1⟩ := rd_any DA.out i
        obtain ⟨b0, b1⟩ := rd_any DB.out i
        by_cases hia : i < a.length
        · obtain ⟨ad, e1, hc1⟩ := C_int_at HA.out i hia
          subst e1
          replace hc1 := (BW.out.cell (World.block_lt_of_cell? w _ hc1)).trans hc1
          by_cases hib : i < b.length
          · obtain ⟨bd, e2, hc2⟩ := C_int_at HB.out i hib
            subst e2
            replace hc2 := (BW.out.cell (World.block_lt_of_cell? w _ hc2)).trans hc2
            go_wp2_with ((with_reducible refine gate_dst (N := 43) rfl ?_); refine print_append_num (w0 := w) w.heap.size rfl _ _ 73 102 .u32 4 rfl Try.underlying73 info_u32 (by decide) u5 xs _ rfl rfl HO.out BW.out BW.out.size ?hl ?_; (case hl => have := HS.out.1; omega); intro v1 w1 hown hb1 hg1 hat1; have HO1 := Aside0.mk hown; have HB1 := Aside0.mk hb1; clear hown hb1 hg1 hat1)
            go_roundg (b.length + 1 - (i + 1))
            case measure => omega
            case rel =>
              refine ⟨i + 1, _, _, by omega, by omega, by go_num, rfl, by omega, by omega, ⟨?_⟩, HO1, HB1⟩
              obtain ⟨s1, s2, s3⟩ := HS.out
              refine ⟨by rw [List.length_append, s1]; rfl, s2.snoc (by omega) (by omega), ?_⟩
              rw [val_snoc, s1, val_take_any, val_take_any, Int.pow_succ]
              first | (refine carry_step s3 ?_; (first | rfl | (have za := rd_beyond (l := a) i (by omega); have zb := rd_beyond (l := b) i (by omega); omega) | (have za := rd_beyond (l := a) i (by omega); omega) | (have zb := rd_beyond (l := b) i (by omega); omega))) | (have za := rd_beyond (l := a) i (by omega); have zb := rd_beyond (l := b) i (by omega); have e := carry_step (s := n) (da := rd a i) (db := rd b i) s3 (by omega); rw [Int.emod_eq_of_lt hn0 (by omega)] at e; exact e)
          · omega
        · by_cases hib : i < b.length
          · obtain ⟨bd, e2, hc2⟩ := C_int_at HB.out i hib
            subst e2
            replace hc2 := (BW.out.cell (World.block_lt_of_cell? w _ hc2)).trans hc2
            go_wp2_with ((with_reducible refine gate_dst (N := 43) rfl ?_); refine print_append_num (w0 := w) w.heap.size rfl _ _ 73 102 .u32 4 rfl Try.underlying73 info_u32 (by decide) u5 xs _ rfl rfl HO.out BW.out BW.out.size ?hl ?_; (case hl => have := HS.out.1; omega); intro v1 w1 hown hb1 hg1 hat1; have HO1 := Aside0.mk hown; have HB1 := Aside0.mk hb1; clear hown hb1 hg1 hat1)
            go_roundg (b.length + 1 - (i + 1))
            case measure => omega
            case rel =>
              refine ⟨i + 1, _, _, by omega, by omega, by go_num, rfl, by omega, by omega, ⟨?_⟩, HO1, HB1⟩
              obtain ⟨s1, s2, s3⟩ := HS.out
              refine ⟨by rw [List.length_append, s1]; rfl, s2.snoc (by omega) (by omega), ?_⟩
              rw [val_snoc, s1, val_take_any, val_take_any, Int.pow_succ]
              first | (refine carry_step s3 ?_; (first | rfl | (have za := rd_beyond (l := a) i (by omega); have zb := rd_beyond (l := b) i (by omega); omega) | (have za := rd_beyond (l := a) i (by omega); omega) | (have zb := rd_beyond (l := b) i (by omega); omega))) | (have za := rd_beyond (l := a) i (by omega); have zb := rd_beyond (l := b) i (by omega); have e := carry_step (s := n) (da := rd a i) (db := rd b i) s3 (by omega); rw [Int.emod_eq_of_lt hn0 (by omega)] at e; exact e)
          · go_wp2_with ((with_reducible refine gate_dst (N := 43) rfl ?_); refine print_append_num (w0 := w) w.heap.size rfl _ _ 73 102 .u32 4 rfl Try.underlying73 info_u32 (by decide) u5 xs _ rfl rfl HO.out BW.out BW.out.size ?hl ?_; (case hl => have := HS.out.1; omega); intro v1 w1 hown hb1 hg1 hat1; have HO1 := Aside0.mk hown; have HB1 := Aside0.mk hb1; clear hown hb1 hg1 hat1)
            go_roundg (b.length + 1 - (i + 1))
            case measure => omega
            case rel =>
              refine ⟨i + 1, _, _, by omega, by omega, by go_num, rfl, by omega, by omega, ⟨?_⟩, HO1, HB1⟩
              obtain ⟨s1, s2, s3⟩ := HS.out
              refine ⟨by rw [List.length_append, s1]; rfl, s2.snoc (by omega) (by omega), ?_⟩
              rw [val_snoc, s1, val_take_any, val_take_any, Int.pow_succ]
              first | (refine carry_step s3 ?_; (first | rfl | (have za := rd_beyond (l := a) i (by omega); have zb := rd_beyond (l := b) i (by omega); omega) | (have za := rd_beyond (l := a) i (by omega); omega) | (have zb := rd_beyond (l := b) i (by omega); omega))) | (have za := rd_beyond (l := a) i (by omega); have zb := rd_beyond (l := b) i (by omega); have e := carry_step (s := n) (da := rd a i) (db := rd b i) s3 (by omega); rw [Int.emod_eq_of_lt hn0 (by omega)] at e; exact e)
      · have hi' : i = b.length + 1 := by omega
        have HI := Aside0.mk hi'
        clear hi'
        go_wp2
        go_ret
        obtain ⟨s1, s2, s3⟩ := HS.out
        exact own_givesRow HO.out ⟨s2, plus_end DA.out DB.out s2 hma hmb hn0 hn1 (by rw [← HI.out]; exact s3), by have := HI.out; omega⟩ BW.out
  · obtain rfl : m = a.length := by have := HM1.out; omega
    go_enter Try.func55, Try.ntmps55
    go_wp2
    go_loopg [5, 6, 14] (a.length + 1) (fun gg v5 v6 v14 wr => ∃ (i : Nat) (n : Int) (xs : List Int), i ≤ a.length + 1 ∧ a.length + 1 - i ≤ gg ∧ v14 = .int .i64 i ∧ v6 = .int .u64 n ∧ 0 ≤ n ∧ n ≤ 1 ∧ Aside0 (xs.length = i ∧ Digs xs ∧ val xs + 4294967296 ^ i * n = val (a.take i) + val (b.take i)) ∧ Aside0 (wr.ownsRow w.heap.size 102 1 v5 xs.length (nums .u32 xs)) ∧ Aside0 (Below w.heap.size w wr))
    case atStart => exact ⟨0, 0, [], Nat.zero_le _, by omega, rfl, rfl, by omega, by omega, ⟨rfl, Digs.nil, by simp [val]⟩, ⟨own_nil _ _ _ _⟩, ⟨Below.refl _ _⟩⟩
    case round =>
      obtain ⟨i, n, xs, hi, hgg, rfl, rfl, hn0, hn1, HS, HO, BW⟩ := hrel
      by_cases hlt : i < a.length + 1
      · obtain ⟨a0, a1⟩ := rd_any DA.out i
        obtain ⟨b0, b1⟩ := rd_any DB.out i
        by_cases hia : i < a.length
        · obtain ⟨ad, e1, hc1⟩ := C_int_at HA.out i hia
          subst e1
          replace hc1 := (BW.out.cell (World.block_lt_of_cell? w _ hc1)).trans hc1
          by_cases hib : i < b.length
          · obtain ⟨bd, e2, hc2⟩ := C_int_at HB.out i hib
            subst e2
            replace hc2 := (BW.out.cell (World.block_lt_of_cell? w _ hc2)).trans hc2
            go_wp2_with ((with_reducible refine gate_dst (N := 43) rfl ?_); refine print_append_num (w0 := w) w.heap.size rfl _ _ 73 102 .u32 4 rfl Try.underlying73 info_u32 (by decide) u5 xs _ rfl rfl HO.out BW.out BW.out.size ?hl ?_; (case hl => have := HS.out.1; omega); intro v1 w1 hown hb1 hg1 hat1; have HO1 := Aside0.mk hown; have HB1 := Aside0.mk hb1; clear hown hb1 hg1 hat1)
            go_roundg (a.length + 1 - (i + 1))
            case measure => omega
            case rel =>
              refine ⟨i + 1, _, _, by omega, by omega, by go_num, rfl, by omega, by omega, ⟨?_⟩, HO1, HB1⟩
              obtain ⟨s1, s2, s3⟩ := HS.out
              refine ⟨by rw [List.length_append, s1]; rfl, s2.snoc (by omega) (by omega), ?_⟩
              rw [val_snoc, s1, val_take_any, val_take_any, Int.pow_succ]
              first | (refine carry_step s3 ?_; (first | rfl | (have za := rd_beyond (l := a) i (by omega); have zb := rd_beyond (l := b) i (by omega); omega) | (have za := rd_beyond (l := a) i (by omega); omega) | (have zb := rd_beyond (l := b) i (by omega); omega))) | (have za := rd_beyond (l := a) i (by omega); have zb := rd_beyond (l := b) i (by omega); have e := carry_step (s := n) (da := rd a i) (db := rd b i) s3 (by omega); rw [Int.emod_eq_of_lt hn0 (by omega)] at e; exact e)
          · go_wp2_with ((with_reducible refine gate_dst (N := 43) rfl ?_); refine print_append_num (w0 := w) w.heap.size rfl _ _ 73 102 .u32 4 rfl Try.underlying73 info_u32 (by decide) u5 xs _ rfl rfl HO.out BW.out BW.out.size ?hl ?_; (case hl => have := HS.out.1; omega); intro v1 w1 hown hb1 hg1 hat1; have HO1 := Aside0.mk hown; have HB1 := Aside0.mk hb1; clear hown hb1 hg1 hat1)
            go_roundg (a.length + 1 - (i + 1))
            case measure => omega
            case rel =>
              refine ⟨i + 1, _, _, by omega, by omega, by go_num, rfl, by omega, by omega, ⟨?_⟩, HO1, HB1⟩
              obtain ⟨s1, s2, s3⟩ := HS.out
              refine ⟨by rw [List.length_append, s1]; rfl, s2.snoc (by omega) (by omega), ?_⟩
              rw [val_snoc, s1, val_take_any, val_take_any, Int.pow_succ]
              first | (refine carry_step s3 ?_; (first | rfl | (have za := rd_beyond (l := a) i (by omega); have zb := rd_beyond (l := b) i (by omega); omega) | (have za := rd_beyond (l := a) i (by omega); omega) | (have zb := rd_beyond (l := b) i (by omega); omega))) | (have za := rd_beyond (l := a) i (by omega); have zb := rd_beyond (l := b) i (by omega); have e := carry_step (s := n) (da := rd a i) (db := rd b i) s3 (by omega); rw [Int.emod_eq_of_lt hn0 (by omega)] at e; exact e)
        · by_cases hib : i < b.length
          · omega
          · go_wp2_with ((with_reducible refine gate_dst (N := 43) rfl ?_); refine print_append_num (w0 := w) w.heap.size rfl _ _ 73 102 .u32 4 rfl Try.underlying73 info_u32 (by decide) u5 xs _ rfl rfl HO.out BW.out BW.out.size ?hl ?_; (case hl => have := HS.out.1; omega); intro v1 w1 hown hb1 hg1 hat1; have HO1 := Aside0.mk hown; have HB1 := Aside0.mk hb1; clear hown hb1 hg1 hat1)
            go_roundg (a.length + 1 - (i + 1))
            case measure => omega
            case rel =>
              refine ⟨i + 1, _, _, by omega, by omega, by go_num, rfl, by omega, by omega, ⟨?_⟩, HO1, HB1⟩
              obtain ⟨s1, s2, s3⟩ := HS.out
              refine ⟨by rw [List.length_append, s1]; rfl, s2.snoc (by omega) (by omega), ?_⟩
              rw [val_snoc, s1, val_take_any, val_take_any, Int.pow_succ]
              first | (refine carry_step s3 ?_; (first | rfl | (have za := rd_beyond (l := a) i (by omega); have zb := rd_beyond (l := b) i (by omega); omega) | (have za := rd_beyond (l := a) i (by omega); omega) | (have zb := rd_beyond (l := b) i (by omega); omega))) | (have za := rd_beyond (l := a) i (by omega); have zb := rd_beyond (l := b) i (by omega); have e := carry_step (s := n) (da := rd a i) (db := rd b i) s3 (by omega); rw [Int.emod_eq_of_lt hn0 (by omega)] at e; exact e)
      · have hi' : i = a.length + 1 := by omega
        have HI := Aside0.mk hi'
        clear hi'
        go_wp2
        go_ret
        obtain ⟨s1, s2, s3⟩ := HS.out
        exact own_givesRow HO.out ⟨s2, plus_end DA.out DB.out s2 hma hmb hn0 hn1 (by rw [← HI.out]; exact s3), by have := HI.out; omega⟩ BW.out
end Go.Proofs.Ytiokmnabkccpcaa.Kit
