/- Numbers as text: num.Int's String. -/
import Derived.Test.YtiokmnabkccpcaaC1
import Derived.Test.YtiokmnabkccpcaaC2
import Derived.Test.YtiokmnabkccpcaaC3
import Derived.Laws.Bits64b
import Derived.IntWalk
set_option linter.unusedVariables false
set_option linter.unusedSimpArgs false
namespace Go.Proofs.Ytiokmnabkccpcaa.Kit
open Go.RowKit Go.Proofs.YtiokmnabkccpcaaW.PrintWords Go.Proofs.YtiokmnabkccpcaaW.PrintLast Go.Proofs.YtiokmnabkccpcaaW.PrintMore

theorem info_u8 : (Try.prog.info? 5).map (fun i => (i.zero, i.size, i.bytes)) = some (some (.int .u8 0), 1, 1) := by kernel_rfl
theorem or_low (n x : Int) (h0 : 0 ≤ n) (h1 : n < 1000000000) (h2 : 0 ≤ x) (h3 : x < 4294967296) : bits .or .u64 (n * 4294967296) x = n * 4294967296 + x := by
  obtain ⟨a, rfl⟩ : ∃ a : Nat, n = a := ⟨n.toNat, by omega⟩
  obtain ⟨b, rfl⟩ : ∃ b : Nat, x = b := ⟨x.toNat, by omega⟩
  have h := bits_or_u64_nat (a * 4294967296) b (by omega) (by omega)
  have e : (a * 4294967296 ||| b : Nat) = a * 4294967296 + b := by
    have := Nat.two_pow_add_eq_or_of_lt (i := 32) (b := b) (by omega) a
    rw [show (2 : Nat) ^ 32 = 4294967296 from rfl, Nat.mul_comm] at this
    exact this.symm
  rw [e] at h
  simpa using h
theorem str_top {wr : World} {base g n c : Nat} {cur : List Int} {j : Nat} (h : wr.ownsRow base 102 1 (.slice (some ⟨g, 0, none⟩) n c) n (nums .u32 cur)) (hl : cur.length = n) (hj : j ≤ n) (h0 : 0 < j) (hc : ¬ (0 < j ∧ rd cur ((j - 1 : Nat) : Int) = 0)) :
    ∃ m, j = m + 1 ∧ wr.cell? ⟨g, m, none⟩ = some (.int .u32 (rd cur (m : Int))) ∧ (rd cur (m : Int) == 0) = false := by
  obtain ⟨m, rfl⟩ : ∃ m, j = m + 1 := ⟨j - 1, by omega⟩
  refine ⟨m, rfl, (own_at h (m : Int) (by omega) (by omega)).1, ?_⟩
  have : ¬ rd cur (m : Int) = 0 := fun e => hc ⟨h0, e⟩
  simpa using this
theorem own_C8 {w : World} {base : Nat} {A : Option Addr} {c : Nat} {xs : List Int} (h : w.ownsRow base 5 1 (.slice A xs.length c) xs.length (nums .u8 xs)) : xs.length ≤ c ∧ (Kd.int .u8).C w A xs.length xs := by
  obtain ⟨A', c', e, hl, hC⟩ := Kd.R_reads (Kd.R_of_own (h1 := fun _ => rfl) (enc := Value.int .u8) (ok := fun _ => True) h (fun _ _ => trivial))
  injection e with e1 e2 e3
  subst e1 e3
  exact ⟨hl, hC⟩
theorem dec_of {xs l : List Int} {ng : Bool} (h1 : DD l) (h2 : LastOk l) (h3 : dval l = val xs) (h4 : 0 < val xs) : decS (NV ⟨xs, ng⟩) = strOfNums ((if ng then [45] else []) ++ l.reverse) := by
  have hne : l ≠ [] := by rintro rfl; simp [dval] at h3; omega
  have e := decN_eq h1 h2 hne
  rw [h3] at e
  cases ng with
  | true =>
    have : NV ⟨xs, true⟩ = -(val xs) := rfl
    rw [this]
    unfold decS
    rw [if_pos (by omega), show (-(val xs)).natAbs = (val xs).toNat by omega, e]
    rfl
  | false =>
    have : NV ⟨xs, false⟩ = val xs := rfl
    rw [this]
    unfold decS
    rw [if_neg (by omega), show (val xs).natAbs = (val xs).toNat by omega, e]
    rfl
theorem dec_zero : decS 0 = ⟨#[48]⟩ := by rfl
set_option maxHeartbeats 4000000 in
set_option maxRecDepth 100000 in
theorem string_zero (n : Bool) (A : Option Addr) (c : Nat) (w : World) (z : Int) (hx : NumAt w A c ⟨[], n⟩ z) :
    Calls Try.prog 87 #[numV A c ⟨[], n⟩] w (Gives w (.string (decS z))) := by
  have hn : n = false := by
    cases n with
    | true => exact absurd rfl (hx.ok.2 rfl)
    | false => rfl
  subst hn
  have HF := Aside0.mk (show decS z = ⟨#[48]⟩ from by rw [← hx.val]; exact dec_zero)
  clear hx
  unfold numV
  go_enter Try.func87, Try.ntmps87
  go_wp2_with ((with_reducible refine gate_dst (N := 1) rfl ?_); refine box_event rfl (N := 1) rfl (cs := #[.slice A 0 c, .bool false]) (t := 75) ?hr ?_; (case hr => first | (go_simp; done) | (go_simp; rfl)); intro g1 hg1 w1 hbox1 hb1; have HG1 := Aside0.mk hg1; have HX1 := Aside0.mk hbox1; clear hg1 hbox1; have c10 : w1.cell? ⟨g1, 0, none⟩ = some (.slice A 0 c) := (blk_cell HX1.out 0).trans rfl)
  go_ret
  exact ⟨by rw [HF.out]; rfl, hb1⟩

set_option maxHeartbeats 4000000 in
set_option maxRecDepth 100000 in
theorem string_pos (A : Option Addr) (c : Nat) (xs : List Int) (ng : Bool) (z : Int) (w : World) (hx : NumAt w A c ⟨xs, ng⟩ z) (hp : 0 < xs.length) (hl : xs.length ≤ 1073741824) :
    Calls Try.prog 87 #[.agg #[.slice A xs.length c, .bool ng]] w (Gives w (.string (decS z))) := by
  have HX := Aside0.mk hx
  have hne : ((xs.length : Int) == 0) = false := by
    have : ¬ (xs.length : Int) = 0 := by omega
    simpa using this
  clear hx
  go_enter Try.func87, Try.ntmps87
  go_wp2_with ((with_reducible refine gate_dst (N := 1) rfl ?_); refine box_event rfl (N := 1) rfl (cs := #[.slice A xs.length c, .bool ng]) (t := 75) ?hr ?_; (case hr => first | (go_simp; done) | (go_simp; rfl)); intro g1 hg1 w1 hbox1 hb1; have HG1 := Aside0.mk hg1; have HX1 := Aside0.mk hbox1; clear hg1 hbox1; have c10 : w1.cell? ⟨g1, 0, none⟩ = some (.slice A xs.length c) := (blk_cell HX1.out 0).trans rfl)
  refine (clone_calls w1 xs A c hp (by omega) (Kd.C_below HX.out.C hb1)).mono ?_
  rintro e w2 ⟨v4, rfl, ho, hb2⟩
  have HO2 := Aside0.mk ho
  have HB2 := Aside0.mk hb2
  have HB1 := Aside0.mk hb1
  clear ho hb2 hb1 c10
  have hvx : 0 < val xs := norm_pos HX.out.ok.1 (by intro e; rw [show xs = [] from e] at hp; simp at hp)
  have HVX := Aside0.mk hvx
  clear hvx
  go_wp2_with fail
  go_loopg [3, 4, 5, 6, 57] (val xs).toNat (fun gg v3 v4 _ _ _ wr => ∃ (ls ds : List Int), Aside0 ((val ls).toNat ≤ gg) ∧ Aside0 (wr.ownsRow w1.heap.size 102 1 v4 ls.length (nums .u32 ls)) ∧ Aside0 (wr.ownsRow w1.heap.size 5 1 v3 ds.length (nums .u8 ds)) ∧
    Aside0 (Norm ls ∧ DD ds ∧ val xs = dval ds + 10 ^ ds.length * val ls ∧ ls.length ≤ xs.length ∧ ds.length ≤ 32 * xs.length + 9) ∧ Aside0 (Below w1.heap.size w1 wr))
  case atStart => exact ⟨xs, [], ⟨Nat.le_refl _⟩, HO2, ⟨own_nil _ _ _ _⟩, ⟨HX.out.ok.1, DD.nil, by simp [dval], Nat.le_refl _, by simp⟩, HB2⟩
  case round =>
    obtain ⟨ls, ds, HM, HL, HD, HI, BW⟩ := hrel
    obtain ⟨A4, c4, rfl⟩ := own_slice HL.out
    obtain ⟨A3, c3, rfl⟩ := own_slice HD.out
    have hlx : ls.length ≤ 1073741824 := by have := HI.out.2.2.2.1; omega
    by_cases hl0 : 0 < ls.length
    · obtain ⟨g4, cap, hv, hgb, hgl⟩ := HL.out.form (by omega)
      injection hv with hv1 _ hv2
      subst hv1 hv2
      have hcap4 : ls.length ≤ c4 := (own_C_lit HL.out).1
      go_wp2_with fail
      go_loopg [5, 6] ls.length (fun gg v5 v6 wr2 => ∃ (k : Nat) (n : Int) (cur : List Int), k ≤ ls.length ∧ k ≤ gg ∧ v6 = .int .i64 ((k : Int) - 1) ∧ v5 = .int .u64 n ∧ 0 ≤ n ∧ n < 1000000000 ∧
        Aside0 (cur.length = ls.length ∧ Digs cur ∧ cur.take k = ls.take k ∧ val (ls.drop k) = 1000000000 * val (cur.drop k) + n) ∧ Aside0 (wr2.ownsRow w1.heap.size 102 1 (.slice (some ⟨g4, 0, none⟩) ls.length c4) ls.length (nums .u32 cur)) ∧
        Aside0 (wr2.ownsRow w1.heap.size 5 1 (.slice A3 ds.length c3) ds.length (nums .u8 ds)) ∧ Aside0 (Below w1.heap.size w1 wr2))
      case atStart => exact ⟨ls.length, 0, ls, Nat.le_refl _, Nat.le_refl _, rfl, rfl, by omega, by omega, ⟨rfl, HI.out.1.1, rfl, by simp [val]⟩, HL, HD, BW⟩
      case round =>
        obtain ⟨k, n, cur, hk, hgg, rfl, rfl, hn0, hn1, HC, HLc, HDc, BWc⟩ := hrel
        by_cases hk0 : k = 0
        · subst hk0
          have HV := Aside0.mk (show val ls = 1000000000 * val cur + n from by have := HC.out.2.2.2; simpa using this)
          have HCD := Aside0.mk (show Digs cur from HC.out.2.1)
          have HCL := Aside0.mk (show cur.length = ls.length from HC.out.1)
          go_wp2_with fail
          go_loopg [4] ls.length (fun gg v4 wr3 => ∃ j : Nat, j ≤ ls.length ∧ j ≤ gg ∧ v4 = .slice (some ⟨g4, 0, none⟩) j c4 ∧ Aside0 (trim (cur.take j) = trim cur) ∧ Aside0 (wr3 = wr))
          case atStart => exact ⟨ls.length, Nat.le_refl _, Nat.le_refl _, rfl, ⟨by rw [← HCL.out, List.take_length]⟩, ⟨rfl⟩⟩
          case round =>
            obtain ⟨j, hj, hjg, rfl, HT, HW⟩ := hrel
            obtain rfl := HW.out
            clear HW
            by_cases hcont : 0 < j ∧ rd cur ((j - 1 : Nat) : Int) = 0
            · obtain ⟨hj0, hz⟩ := hcont
              obtain ⟨m, rfl⟩ : ∃ m, j = m + 1 := ⟨j - 1, by omega⟩
              obtain ⟨hc1, hf1⟩ := own_at HLc.out (m : Int) (by omega) (by omega)
              rw [show ((m : Int)).toNat = m from rfl] at hc1 hf1
              replace hz : rd cur (m : Int) = 0 := hz
              rw [hz] at hc1
              have HZ := Aside0.mk hz
              clear hz
              go_wp2_with fail
              go_roundg m
              case measure => omega
              case rel => exact ⟨m, by omega, Nat.le_refl _, by first | rfl | go_num, ⟨by rw [← HT.out, trim_take_last cur m (by have := HCL.out; omega) HZ.out]⟩, ⟨rfl⟩⟩
            · have HTT := Aside0.mk (show trim cur = cur.take j from by
                rcases Nat.eq_zero_or_pos j with h0 | h0
                · rw [← HT.out, h0]; rfl
                · obtain ⟨m, rfl⟩ : ∃ m, j = m + 1 := ⟨j - 1, by omega⟩
                  rw [← HT.out, trim_take_ne cur m (by have := HCL.out; omega) (fun e => hcont ⟨h0, e⟩)])
              rcases Nat.eq_zero_or_pos j with h0 | h0
              · subst h0
                go_wp2_with fail
                go_loopg [3, 5, 57] 9 (fun gg v3 v5 v57 wr4 => ∃ (i : Nat) (n' : Int) (ds' : List Int), i ≤ 9 ∧ 9 - i ≤ gg ∧ v57 = .int .i64 i ∧ v5 = .int .u64 n' ∧ 0 ≤ n' ∧ n' < 1000000000 ∧
                  Aside0 (n' < 10 ^ (9 - i) ∧ DD ds' ∧ ds'.length = ds.length + i ∧ dval ds + 10 ^ ds.length * n = dval ds' + 10 ^ ds'.length * n') ∧ Aside0 (wr4.ownsRow w1.heap.size 5 1 v3 ds'.length (nums .u8 ds')) ∧
                  Aside0 (wr4.ownsRow w1.heap.size 102 1 (.slice (some ⟨g4, 0, none⟩) 0 c4) 0 (nums .u32 (cur.take 0))) ∧ Aside0 (Below w1.heap.size w1 wr4))
                case atStart => exact ⟨0, n, ds, by omega, by omega, rfl, rfl, hn0, hn1, ⟨by simpa using hn1, HI.out.2.1, rfl, rfl⟩, HDc, ⟨by have := own_take HLc.out hj; rwa [Nat.mul_one, show (nums .u32 cur).take 0 = nums .u32 (cur.take 0) from by simp [nums]] at this⟩, BWc⟩
                case round =>
                  obtain ⟨i, n', ds', hi, hgg3, rfl, rfl, hm0, hm1, HQ, HD3, HL3, BW3⟩ := hrel
                  by_cases hi9 : i < 9
                  · obtain ⟨q, hq⟩ : ∃ q, q = n' / 10 := ⟨_, rfl⟩
                    obtain ⟨r, hr⟩ : ∃ r, r = n' % 10 := ⟨_, rfl⟩
                    have hq0 : 0 ≤ q := by omega
                    have hq1 : q < 1000000000 := by omega
                    have hr0 : 0 ≤ r := by omega
                    have hr1 : r < 10 := by omega
                    have htd : n'.tdiv 10 = q := by rw [hq]; exact Int.tdiv_eq_ediv_of_nonneg hm0
                    have htm : n'.tmod 10 = r := by rw [hr]; exact Int.tmod_eq_emod_of_nonneg hm0
                    have hwq : IntKind.u64.wrap q = q := IntWalk.u64_in _ ⟨by omega, by omega⟩
                    have hwr : IntKind.u64.wrap (48 + r) = 48 + r := IntWalk.u64_in _ ⟨by omega, by omega⟩
                    have hw8 : (48 + r) % 256 = 48 + r := by omega
                    have HPQ := Aside0.mk (show q = n' / 10 ∧ r = n' % 10 from ⟨hq, hr⟩)
                    clear hq hr
                    go_wp2_with ((with_reducible refine gate_dst (N := 65) rfl ?_); refine print_append_num (w0 := w1) w1.heap.size rfl _ _ 162 5 .u8 1 rfl Try.underlying162 info_u8 (by decide) u3 ds' _ rfl rfl HD3.out BW3.out BW3.out.size ?hl ?_; (case hl => have := HQ.out.2.2.1; have := HI.out.2.2.2.2; omega); intro v6 w6 hown hb6 hg6 hat6; have HO6 := Aside0.mk hown; have HB6 := Aside0.mk hb6; have HG6 := Aside0.mk hg6; clear hown hb6 hg6 hat6)
                    go_roundg (9 - (i + 1))
                    case measure => omega
                    case rel =>
                      obtain ⟨e1, e2⟩ := HPQ.out
                      obtain ⟨i1, i2, i3, i4⟩ := HQ.out
                      refine ⟨i + 1, q, ds' ++ [48 + r], by omega, Nat.le_refl _, by first | rfl | go_num, rfl, hq0, hq1, ⟨?_, i2.snoc (by omega) (by omega), by rw [List.length_append, i3]; rfl, ?_⟩, HO6, ⟨own_other HL3.out HG6.out (own_type_ne HL3.out HD3.out (by decide))⟩, HB6⟩
                      · have e : (10 : Int) ^ (9 - i) = 10 ^ (9 - (i + 1)) * 10 := by rw [← Int.pow_succ]; congr 1; omega
                        rw [e] at i1
                        obtain ⟨T, hT⟩ : ∃ T, T = (10 : Int) ^ (9 - (i + 1)) := ⟨_, rfl⟩
                        rw [← hT] at i1 ⊢
                        omega
                      · rw [i4, dval_snoc, List.length_append, List.length_singleton, Int.pow_succ]
                        obtain ⟨T, hT⟩ : ∃ T, T = (10 : Int) ^ ds'.length := ⟨_, rfl⟩
                        rw [← hT]
                        have e : n' = 10 * q + r := by omega
                        rw [e, show (48 : Int) + r - 48 = r by omega, Int.mul_add, Int.mul_assoc]
                        omega
                  · have hi0 : i = 9 := by omega
                    have HN0 := Aside0.mk (show n' = 0 from by
                      have := HQ.out.1
                      rw [hi0] at this
                      have : n' < 1 := by simpa using this
                      omega)
                    have HTL := Aside0.mk (show ds'.length = ds.length + 9 from by rw [HQ.out.2.2.1, hi0])
                    clear hi0
                    have HLP := Aside0.mk (show 0 < val ls from norm_pos HI.out.1 (by intro e; rw [e] at hl0; simp at hl0))
                    have HVT := Aside0.mk (show val (cur.take 0) = val cur from by rw [← HTT.out, val_trim])
                    have HNT := Aside0.mk (show Norm (cur.take 0) from ⟨HCD.out.take _, by rw [HT.out]; exact HTT.out⟩)
                    have HTE := Aside0.mk (show (cur.take 0).length = 0 from by rw [List.length_take]; have := HCL.out; omega)
                    go_wp2_with fail
                    go_roundg (val (cur.take 0)).toNat
                    case measure =>
                      have h1 := HM.out
                      have h2 := HV.out
                      have h3 := HLP.out
                      have h4 := val_nonneg HCD.out
                      rw [HVT.out]
                      omega
                    case rel =>
                      refine ⟨cur.take 0, ds', ⟨Nat.le_refl _⟩, ⟨by rw [HTE.out]; exact HL3.out⟩, HD3, ⟨HNT.out, HQ.out.2.1, ?_, by rw [HTE.out]; have := HI.out.2.2.2.1; omega, ?_⟩, BW3⟩
                      · have h1 := HQ.out.2.2.2
                        have h2 := HI.out.2.2.1
                        have h3 := HTL.out
                        rw [HN0.out, Int.mul_zero, Int.add_zero] at h1
                        rw [HVT.out, h2, HV.out, Int.mul_add, ← h1, h3, Int.pow_add, ← Int.mul_assoc, show (10 : Int) ^ 9 = 1000000000 from rfl]
                        omega
                      · have h2 := HI.out.2.2.1
                        have h3 := HTL.out
                        have h4 := HLP.out
                        have h5 := dval_nonneg HI.out.2.1
                        have h6 : (0 : Int) < 10 ^ ds.length := Int.pow_pos (by omega)
                        have h7 : (10 : Int) ^ ds.length * 1 ≤ 10 ^ ds.length * val ls := Int.mul_le_mul_of_nonneg_left (by omega) (Int.le_of_lt h6)
                        have h8 := dig_bound ds.length xs.length (val xs) (by omega) (val_lt_pow HX.out.ok.1.1)
                        omega
              · obtain ⟨m, rfl, hc1, hxne⟩ := str_top HLc.out HCL.out hj h0 hcont
                go_wp2_with fail
                go_loopg [3, 5, 57] 9 (fun gg v3 v5 v57 wr4 => ∃ (i : Nat) (n' : Int) (ds' : List Int), i ≤ 9 ∧ 9 - i ≤ gg ∧ v57 = .int .i64 i ∧ v5 = .int .u64 n' ∧ 0 ≤ n' ∧ n' < 1000000000 ∧
                  Aside0 (n' < 10 ^ (9 - i) ∧ DD ds' ∧ ds'.length = ds.length + i ∧ dval ds + 10 ^ ds.length * n = dval ds' + 10 ^ ds'.length * n') ∧ Aside0 (wr4.ownsRow w1.heap.size 5 1 v3 ds'.length (nums .u8 ds')) ∧
                  Aside0 (wr4.ownsRow w1.heap.size 102 1 (.slice (some ⟨g4, 0, none⟩) (m + 1) c4) (m + 1) (nums .u32 (cur.take (m + 1)))) ∧ Aside0 (Below w1.heap.size w1 wr4))
                case atStart => exact ⟨0, n, ds, by omega, by omega, rfl, rfl, hn0, hn1, ⟨by simpa using hn1, HI.out.2.1, rfl, rfl⟩, HDc, ⟨by have := own_take HLc.out hj; rwa [Nat.mul_one, show (nums .u32 cur).take (m + 1) = nums .u32 (cur.take (m + 1)) from by simp [nums]] at this⟩, BWc⟩
                case round =>
                  obtain ⟨i, n', ds', hi, hgg3, rfl, rfl, hm0, hm1, HQ, HD3, HL3, BW3⟩ := hrel
                  by_cases hi9 : i < 9
                  · obtain ⟨q, hq⟩ : ∃ q, q = n' / 10 := ⟨_, rfl⟩
                    obtain ⟨r, hr⟩ : ∃ r, r = n' % 10 := ⟨_, rfl⟩
                    have hq0 : 0 ≤ q := by omega
                    have hq1 : q < 1000000000 := by omega
                    have hr0 : 0 ≤ r := by omega
                    have hr1 : r < 10 := by omega
                    have htd : n'.tdiv 10 = q := by rw [hq]; exact Int.tdiv_eq_ediv_of_nonneg hm0
                    have htm : n'.tmod 10 = r := by rw [hr]; exact Int.tmod_eq_emod_of_nonneg hm0
                    have hwq : IntKind.u64.wrap q = q := IntWalk.u64_in _ ⟨by omega, by omega⟩
                    have hwr : IntKind.u64.wrap (48 + r) = 48 + r := IntWalk.u64_in _ ⟨by omega, by omega⟩
                    have hw8 : (48 + r) % 256 = 48 + r := by omega
                    have HPQ := Aside0.mk (show q = n' / 10 ∧ r = n' % 10 from ⟨hq, hr⟩)
                    clear hq hr
                    go_wp2_with ((with_reducible refine gate_dst (N := 65) rfl ?_); refine print_append_num (w0 := w1) w1.heap.size rfl _ _ 162 5 .u8 1 rfl Try.underlying162 info_u8 (by decide) u3 ds' _ rfl rfl HD3.out BW3.out BW3.out.size ?hl ?_; (case hl => have := HQ.out.2.2.1; have := HI.out.2.2.2.2; omega); intro v6 w6 hown hb6 hg6 hat6; have HO6 := Aside0.mk hown; have HB6 := Aside0.mk hb6; have HG6 := Aside0.mk hg6; clear hown hb6 hg6 hat6)
                    go_roundg (9 - (i + 1))
                    case measure => omega
                    case rel =>
                      obtain ⟨e1, e2⟩ := HPQ.out
                      obtain ⟨i1, i2, i3, i4⟩ := HQ.out
                      refine ⟨i + 1, q, ds' ++ [48 + r], by omega, Nat.le_refl _, by first | rfl | go_num, rfl, hq0, hq1, ⟨?_, i2.snoc (by omega) (by omega), by rw [List.length_append, i3]; rfl, ?_⟩, HO6, ⟨own_other HL3.out HG6.out (own_type_ne HL3.out HD3.out (by decide))⟩, HB6⟩
                      · have e : (10 : Int) ^ (9 - i) = 10 ^ (9 - (i + 1)) * 10 := by rw [← Int.pow_succ]; congr 1; omega
                        rw [e] at i1
                        obtain ⟨T, hT⟩ : ∃ T, T = (10 : Int) ^ (9 - (i + 1)) := ⟨_, rfl⟩
                        rw [← hT] at i1 ⊢
                        omega
                      · rw [i4, dval_snoc, List.length_append, List.length_singleton, Int.pow_succ]
                        obtain ⟨T, hT⟩ : ∃ T, T = (10 : Int) ^ ds'.length := ⟨_, rfl⟩
                        rw [← hT]
                        have e : n' = 10 * q + r := by omega
                        rw [e, show (48 : Int) + r - 48 = r by omega, Int.mul_add, Int.mul_assoc]
                        omega
                  · have hi0 : i = 9 := by omega
                    have HN0 := Aside0.mk (show n' = 0 from by
                      have := HQ.out.1
                      rw [hi0] at this
                      have : n' < 1 := by simpa using this
                      omega)
                    have HTL := Aside0.mk (show ds'.length = ds.length + 9 from by rw [HQ.out.2.2.1, hi0])
                    clear hi0
                    have HLP := Aside0.mk (show 0 < val ls from norm_pos HI.out.1 (by intro e; rw [e] at hl0; simp at hl0))
                    have HVT := Aside0.mk (show val (cur.take (m + 1)) = val cur from by rw [← HTT.out, val_trim])
                    have HNT := Aside0.mk (show Norm (cur.take (m + 1)) from ⟨HCD.out.take _, by rw [HT.out]; exact HTT.out⟩)
                    have HTE := Aside0.mk (show (cur.take (m + 1)).length = (m + 1) from by rw [List.length_take]; have := HCL.out; omega)
                    go_wp2_with fail
                    go_roundg (val (cur.take (m + 1))).toNat
                    case measure =>
                      have h1 := HM.out
                      have h2 := HV.out
                      have h3 := HLP.out
                      have h4 := val_nonneg HCD.out
                      rw [HVT.out]
                      omega
                    case rel =>
                      refine ⟨cur.take (m + 1), ds', ⟨Nat.le_refl _⟩, ⟨by rw [HTE.out]; exact HL3.out⟩, HD3, ⟨HNT.out, HQ.out.2.1, ?_, by rw [HTE.out]; have := HI.out.2.2.2.1; omega, ?_⟩, BW3⟩
                      · have h1 := HQ.out.2.2.2
                        have h2 := HI.out.2.2.1
                        have h3 := HTL.out
                        rw [HN0.out, Int.mul_zero, Int.add_zero] at h1
                        rw [HVT.out, h2, HV.out, Int.mul_add, ← h1, h3, Int.pow_add, ← Int.mul_assoc, show (10 : Int) ^ 9 = 1000000000 from rfl]
                        omega
                      · have h2 := HI.out.2.2.1
                        have h3 := HTL.out
                        have h4 := HLP.out
                        have h5 := dval_nonneg HI.out.2.1
                        have h6 : (0 : Int) < 10 ^ ds.length := Int.pow_pos (by omega)
                        have h7 : (10 : Int) ^ ds.length * 1 ≤ 10 ^ ds.length * val ls := Int.mul_le_mul_of_nonneg_left (by omega) (Int.le_of_lt h6)
                        have h8 := dig_bound ds.length xs.length (val xs) (by omega) (val_lt_pow HX.out.ok.1.1)
                        omega
        · obtain ⟨m, rfl⟩ : ∃ m, k = m + 1 := ⟨k - 1, by omega⟩
          obtain ⟨hc1, hf1⟩ := own_at HLc.out (m : Int) (by omega) (by omega)
          rw [show ((m : Int)).toNat = m from rfl] at hc1 hf1
          obtain ⟨x0, x1⟩ := HC.out.2.1.at_ m (by rw [HC.out.1]; omega)
          obtain ⟨x, hx⟩ : ∃ x, x = rd cur (m : Int) := ⟨_, rfl⟩
          rw [← hx] at hc1 x0 x1
          have HXX := Aside0.mk hx
          clear hx
          rw [show ((m + 1 : Nat) : Int) - 1 = (m : Int) by omega]
          have hml : (m : Int) < (ls.length : Int) := by omega
          obtain ⟨p, hp'⟩ : ∃ p, p = n * 4294967296 + x := ⟨_, rfl⟩
          have hor : bits BinOp.or IntKind.u64 (n * 4294967296) x = p := by rw [hp']; exact or_low n x hn0 hn1 x0 x1
          have hp0 : 0 ≤ p := by omega
          obtain ⟨q, hq⟩ : ∃ q, q = p / 1000000000 := ⟨_, rfl⟩
          obtain ⟨r, hr⟩ : ∃ r, r = p % 1000000000 := ⟨_, rfl⟩
          have hq0 : 0 ≤ q := by omega
          have hq1 : q < 4294967296 := by omega
          have hr0 : 0 ≤ r := by omega
          have hr1 : r < 1000000000 := by omega
          have htd : p.tdiv 1000000000 = q := by rw [hq]; exact Int.tdiv_eq_ediv_of_nonneg hp0
          have htm : p.tmod 1000000000 = r := by rw [hr]; exact Int.tmod_eq_emod_of_nonneg hp0
          have hwq : IntKind.u64.wrap q = q := IntWalk.u64_in _ ⟨by omega, by omega⟩
          have hqm : q % 4294967296 = q := by omega
          have HPQ := Aside0.mk (show p = n * 4294967296 + x ∧ q = p / 1000000000 ∧ r = p % 1000000000 from ⟨hp', hq, hr⟩)
          clear hp' hq hr
          go_wp2_with fail
          go_roundg m
          case measure => omega
          case rel =>
            obtain ⟨hs1, hs2⟩ := own_store HLc.out (m : Int) q
            rw [show ((m : Int)).toNat = m from rfl] at hs1 hs2
            obtain ⟨e1, e2, e3⟩ := HPQ.out
            obtain ⟨i1, i2, i3, i4⟩ := HC.out
            have hnb : (Value.slice A3 ds.length c3).ownBlock = none ∨ (Value.slice A3 ds.length c3).ownBlock ≠ some g4 := own_type_ne HDc.out HLc.out (by decide)
            have hxl : rd ls m = x := by
              rw [HXX.out]
              have := congrArg (fun l => l.getD m 0) i3
              simpa [rd, List.getD_eq_getElem?_getD, List.getElem?_take] using this.symm
            refine ⟨m, r, cur.set m q, by omega, Nat.le_refl _, by first | rfl | go_num, by first | rfl | go_num, hr0, hr1, ⟨by rw [List.length_set, i1], i2.set m _ hq0 hq1, ?_, ?_⟩, ⟨hs1⟩, ⟨own_other HDc.out hs2 hnb⟩, ⟨BWc.out.setCell hgb _⟩⟩
            · rw [List.take_set_of_le (Nat.le_refl _)]
              have := congrArg (List.take m) i3
              rwa [List.take_take, List.take_take, Nat.min_eq_left (by omega)] at this
            · have := div_round ls cur m n x (by omega) i1 hxl i4
              rw [← e1, ← e2, ← e3] at this
              exact this
    · have hl00 : ls.length = 0 := by omega
      have hls : ls = [] := List.eq_nil_of_length_eq_zero hl00
      have HVD := Aside0.mk (show val xs = dval ds from by rw [HI.out.2.2.1, hls]; simp [val])
      have HDD := Aside0.mk HI.out.2.1
      have hdl : ds.length ≤ 32 * xs.length + 9 := HI.out.2.2.2.2
      have hdp : 0 < ds.length := by
        rcases Nat.eq_zero_or_pos ds.length with h | h
        · have h1 := HVX.out
          rw [HVD.out, List.eq_nil_of_length_eq_zero h] at h1
          simp [dval] at h1
        · exact h
      clear hls
      obtain ⟨g3, cap, hv, hgb, hgl⟩ := HD.out.form (by omega)
      injection hv with hv1 _ hv2
      subst hv1 hv2
      have hcap3 : ds.length ≤ c3 := (own_C8 HD.out).1
      subst_vars
      rw [hl00]
      clear hl00 hl0
      have c11 : wr.cell? ⟨g1, 1, none⟩ = some (.bool ng) := (BW.out.cell (blk_lt HX1.out)).trans ((blk_cell HX1.out 1).trans rfl)
      go_wp2_with fail
      go_loopg [3] ds.length (fun gg v3 wr5 => ∃ j : Nat, 0 < j ∧ j ≤ ds.length ∧ j ≤ gg ∧ v3 = .slice (some ⟨g3, 0, none⟩) j c3 ∧ Aside0 (dval (ds.take j) = val xs) ∧ Aside0 (wr5 = wr))
      case atStart => exact ⟨ds.length, hdp, Nat.le_refl _, Nat.le_refl _, rfl, ⟨by rw [List.take_length]; exact HVD.out.symm⟩, ⟨rfl⟩⟩
      case round =>
        obtain ⟨j, hj0, hj, hjg, rfl, HT, HW⟩ := hrel
        obtain rfl := HW.out
        clear HW
        obtain ⟨m, rfl⟩ : ∃ m, j = m + 1 := ⟨j - 1, by omega⟩
        obtain ⟨hc1, hf1⟩ := own_at HD.out (m : Int) (by omega) (by omega)
        rw [show ((m : Int)).toNat = m from rfl] at hc1 hf1
        have HTK := Aside0.mk (show ds.take (m + 1) = ds.take m ++ [rd ds (m : Int)] from by
          rw [List.take_succ_eq_append_getElem (by omega)]
          simp [rd, List.getD_eq_getElem?_getD, show m < ds.length by omega])
        have hml : (m : Int) < (ds.length : Int) := by omega
        cases hz : (rd ds (m : Int) == 48) with
        | true =>
          have hz' : rd ds (m : Int) = 48 := eq_of_beq hz
          have HT2 := Aside0.mk (show dval (ds.take m) = val xs from by
            rw [← HT.out, HTK.out, hz', dval_snoc]
            simp)
          have hm0 : 0 < m := by
            rcases Nat.eq_zero_or_pos m with h | h
            · have h1 := HT2.out
              rw [h] at h1
              have := HVX.out
              simp [dval] at h1
              omega
            · exact h
          rw [hz'] at hc1
          clear hz hz'
          go_wp2_with fail
          go_roundg m
          case measure => omega
          case rel => exact ⟨m, hm0, by omega, Nat.le_refl _, by first | rfl | go_num, HT2, ⟨rfl⟩⟩
        | false =>
          have HLO := Aside0.mk (show LastOk (ds.take (m + 1)) from by
            rw [HTK.out]
            refine lastOk_snoc _ _ fun e => ?_
            rw [e] at hz
            cases hz)
          have HF := Aside0.mk (show decS z = strOfNums ((if ng then [45] else []) ++ (ds.take (m + 1)).reverse) from by
            rw [← HX.out.val]
            exact dec_of (HDD.out.take _) HLO.out HT.out HVX.out)
          have HLE := Aside0.mk (show (ds.take (m + 1)).length = m + 1 from by rw [List.length_take]; omega)
          have HOT := Aside0.mk (show wr.ownsRow w1.heap.size 5 1 (.slice (some ⟨g3, 0, none⟩) (m + 1) c3) (ds.take (m + 1)).length (nums .u8 (ds.take (m + 1))) from by
            have := own_take HD.out hj
            rw [HLE.out]
            rwa [Nat.mul_one, show (nums .u8 ds).take (m + 1) = nums .u8 (ds.take (m + 1)) from by simp [nums]] at this)
          cases ng with
          | false =>
            go_wp2_with fail
            refine (reverse_calls w1.heap.size w1 wr _ (ds.take (m + 1)) HOT.out BW.out (by rw [HLE.out]; omega)).mono ?_
            rintro e w8 ⟨rfl, ho8, hb8, hg8⟩
            have hcv := own_string (P := Try.prog) Try.underlying162 Try.underlying5 Try.underlying9 ho8
            have HB8 := Aside0.mk hb8
            clear ho8 hb8 hg8 hc1 hf1 c11
            go_wp2
            go_ret
            exact ⟨by rw [HF.out]; rfl, below_step HB1.out HB8.out⟩
          | true =>
            go_wp2_with ((with_reducible refine gate_dst (N := 85) rfl ?_); refine print_append_num (w0 := w1) w1.heap.size rfl _ _ 162 5 .u8 1 rfl Try.underlying162 info_u8 (by decide) (.slice (some ⟨g3, 0, none⟩) (m + 1) c3) (ds.take (m + 1)) 45 rfl rfl HOT.out BW.out BW.out.size ?hl ?_; (case hl => rw [HLE.out]; omega); intro v6 w6 hown hb6 hg6 hat6; have HO6 := Aside0.mk hown; have HB6 := Aside0.mk hb6; clear hown hb6 hg6 hat6 hc1 hf1 c11)
            refine (reverse_calls w1.heap.size w1 w6 v6 (ds.take (m + 1) ++ [45]) HO6.out HB6.out (by rw [List.length_append, HLE.out]; simp; omega)).mono ?_
            rintro e w8 ⟨rfl, ho8, hb8, hg8⟩
            have hcv := own_string (P := Try.prog) Try.underlying162 Try.underlying5 Try.underlying9 ho8
            have HB8 := Aside0.mk hb8
            clear ho8 hb8 hg8
            go_wp2
            go_ret
            exact ⟨by have e : decS z = strOfNums (45 :: (ds.take (m + 1)).reverse) := HF.out.trans (by simp)
                      rw [e]; rfl, below_step HB1.out HB8.out⟩
theorem string_calls (A : Option Addr) (c : Nat) (x : NI) (z : Int) (w : World) (hx : NumAt w A c x z) (hl : x.f0.length ≤ 1073741824) :
    Calls Try.prog 87 #[numV A c x] w (Gives w (.string (decS z))) := by
  obtain ⟨xs, ng⟩ := x
  rcases Nat.eq_zero_or_pos xs.length with h | h
  · obtain rfl : xs = [] := List.eq_nil_of_length_eq_zero h
    exact string_zero ng A c w z hx
  · exact string_pos A c xs ng z w hx h hl
end Go.Proofs.Ytiokmnabkccpcaa.Kit
