/- The law ModelRows: its walk. -/
import Derived.Test.YtiokmnabkccpcaaDD
set_option linter.unusedVariables false
set_option linter.unusedSimpArgs false
namespace Go.Proofs.Ytiokmnabkccpcaa.Kit
open Go.RowKit Go.Proofs.YtiokmnabkccpcaaW.PrintWords Go.Proofs.YtiokmnabkccpcaaW.PrintLast Go.Proofs.YtiokmnabkccpcaaW.PrintMore

def kPr : Kd (Int × Int) := Kd.pair (Kd.int .i8) (Kd.int .i8)
theorem kPr_at {w : World} {A : Option Addr} {n : Nat} {rows : List (Int × Int)} (h : kPr.C w A n rows) (j : Nat) (hj : j < n) : ∃ ad, A = some ad ∧ w.cell? (ad.add (j * 2)) = some (.int .i8 (rows.getD j (0, 0)).1) ∧ w.cell? ⟨(ad.add (j * 2)).block, (ad.add (j * 2)).off + 1, none⟩ = some (.int .i8 (rows.getD j (0, 0)).2) := by
  obtain ⟨ad, c, e, _, hK, hc0⟩ := Kd.C_get h (0, 0) (j : Int) (by omega) (by omega)
  have hc : ∀ i u, c[i]? = some u → w.cell? (ad.add (j * 2 + i)) = some u := hc0
  have hK' : ∃ l r, c = l ++ r ∧ l = [.int .i8 (rows.getD j (0, 0)).1] ∧ r = [.int .i8 (rows.getD j (0, 0)).2] := hK
  obtain ⟨_, _, rfl, rfl, rfl⟩ := hK'
  refine ⟨ad, e, hc 0 _ rfl, ?_⟩
  have := hc 1 _ rfl
  rw [← add_field _ _ 1 (by omega)]
  exact this
/-- What the first row that fits says. -/
def wantL (x o : Int) : List (Int × Int) → Int
  | [] => o
  | r :: l => if r.1 = x then r.2 else wantL x o l
theorem wantL_drop (x o : Int) (rows : List (Int × Int)) (j : Nat) (hj : j < rows.length) : wantL x o (rows.drop j) = if (rows.getD j (0, 0)).1 = x then (rows.getD j (0, 0)).2 else wantL x o (rows.drop (j + 1)) := by
  rw [List.drop_eq_getElem_cons hj, wantL, List.getD_eq_getElem?_getD, List.getElem?_eq_getElem hj]
  rfl
def in8 (n : Int) : Prop := -128 ≤ n ∧ n ≤ 127
theorem wantL_in8 {x o : Int} {l : List (Int × Int)} (ho : in8 o) (h : ∀ r ∈ l, in8 r.1 ∧ in8 r.2) : in8 (wantL x o l) := by
  induction l with
  | nil => exact ho
  | cons r l ih =>
    rw [wantL]
    split
    · exact (h r List.mem_cons_self).2
    · exact ih (fun r' hr => h r' (List.mem_cons_of_mem _ hr))
theorem keep3 {w w1 : World} {p0 p1 p2 : Addr} {v0 v1 v2 : Value} (h : w.cell? p0 = some v0 ∧ w.cell? p1 = some v1 ∧ w.cell? p2 = some v2) (hb : Below w.heap.size w w1) : w1.cell? p0 = some v0 ∧ w1.cell? p1 = some v1 ∧ w1.cell? p2 = some v2 := ⟨keepc hb h.1, keepc hb h.2.1, keepc hb h.2.2⟩
theorem info_Rw : (Try.prog.info? 32).map (fun i => (i.zero, i.size, i.bytes)) = some (some (.agg #[.slice none 0 0, .string ⟨#[]⟩]), 2, 40) := by kernel_rfl
theorem R_form {w : World} {e base : Nat} {ok : Nat → Prop} {v : Value} {xs : List Rw} (h : kRw.R e w base ok v xs) : ∃ A n c, v = .slice A n c := by
  obtain ⟨A, c, rfl⟩ := Kd.R_slice h
  exact ⟨_, _, _, rfl⟩
theorem lit_own {w : World} {g : Nat} {e : TypeId} {v : Value} (hg : w.heap[g]? = some (.cells #[v] e (0, 0))) {base : Nat} (hb : base ≤ g) : w.ownsRow base e 1 (.slice (some ⟨g, 0, none⟩) 1 1) 1 [v] :=
  ⟨rfl, .inr ⟨g, 1, _, rfl, hb, hg, Nat.le_refl _, by decide, rfl, rfl⟩⟩
theorem lit_R {w : World} {g : Nat} {s : ByteArray} (hg : w.heap[g]? = some (.cells #[.string s] 9 (0, 0))) {base : Nat} (hb : base ≤ g) : Kd.string.R 9 w base (fun k => k = g) (.slice (some ⟨g, 0, none⟩) 1 1) [s] :=
  Kd.R_of_own (enc := Value.string) (h1 := fun _ => rfl) (xs := [s]) (lit_own hg hb) (fun k hk => by simpa [Value.ownBlock, eq_comm] using hk)
theorem row_new {w : World} {base g8 g9 : Nat} {v : Value} {xs : List Rw} (h : kRw.R 32 w base (fun k => k ≠ g8) v xs) (hg : w.heap.size ≤ g9) (hne : g8 < g9) : ∀ k, k = g9 → k ≠ g8 ∧ some k ≠ v.ownBlock := fun k hk => by
  subst hk
  refine ⟨by omega, fun e => ?_⟩
  have := Kd.R_lt h k e.symm
  omega
theorem grown_keep {w w1 w0 : World} {g8 base : Nat} {o : Obj} {v : Value} {xs : List Rw} (hg : w.grownBy w1 v.ownBlock) (hx : w.heap[g8]? = some o) (h : kRw.R 32 w0 base (fun k => k ≠ g8) v xs) : w1.heap[g8]? = some o :=
  (hg.block g8 (blk_lt hx) (fun e => h.1 g8 e.symm rfl)).trans hx
def rowsT (l : List (Int × Int)) : List Rw := l.map fun r => ⟨[decS r.1], decS r.2⟩
theorem rowsT_len (l : List (Int × Int)) : (rowsT l).length = l.length := List.length_map _
theorem rowsT_take (rows : List (Int × Int)) (m : Nat) (h : m < rows.length) : rowsT (rows.take (m + 1)) = rowsT (rows.take m) ++ [⟨[decS (rows.getD m (0, 0)).1], decS (rows.getD m (0, 0)).2⟩] := by
  unfold rowsT
  rw [List.take_succ_eq_append_getElem h, List.map_append, List.getD_eq_getElem?_getD, List.getElem?_eq_getElem h]
  rfl
def tbR (rows : List (Int × Int)) (so : ByteArray) : List Tb := [⟨fS, rowsT rows, so⟩, ⟨fS, [], ⟨#[55, 55]⟩⟩]
theorem small_tbR {rows : List (Int × Int)} {o : Int} (hr : ∀ r ∈ rows, in8 r.1 ∧ in8 r.2) (ho : in8 o) : smallT (tbR rows (decS o)) := fun b hb => by
  have h8 : ∀ n, in8 n → (decS n).size ≤ bulkM := fun n hn => by have := (okP_at n hn.1 hn.2).2; show _ ≤ 1048576; omega
  rcases List.mem_cons.1 hb with e | hb
  · subst e
    refine ⟨h8 o ho, fun r hr' => ?_⟩
    obtain ⟨q, hq, rfl⟩ := List.mem_map.1 hr'
    exact h8 _ (hr q hq).2
  · rw [List.mem_singleton.1 hb]
    exact ⟨by show 2 ≤ bulkM; decide, fun r hr' => by cases hr'⟩
theorem decS_inj {a b : Int} (ha : in8 a) (hb : in8 b) (h : decS a = decS b) : a = b := by
  have h1 := (okP_at a ha.1 ha.2).1
  have h2 := (okP_at b hb.1 hb.2).1
  rw [h, h2] at h1
  injection h1 with h1
  exact h1.symm
theorem lists_dec {a b : Int} (ha : in8 a) (hb : in8 b) : decide (listsOf [decS a] = listsOf [decS b]) = decide (a = b) := by
  by_cases h : a = b
  · subst h; rw [decide_eq_true rfl, decide_eq_true rfl]
  · rw [decide_eq_false h]
    refine lists_ne fun e => h (decS_inj ha hb (ByteArray.ext (Array.ext' e)))
theorem rowS_rows {x : Int} (hx : in8 x) (o : Int) : ∀ (rows : List (Int × Int)), (∀ r ∈ rows, in8 r.1 ∧ in8 r.2) → rowS (rowsT rows) [decS x] (decS o) = decS (wantL x o rows)
  | [], _ => rfl
  | r :: l, h => by
    have ih := rowS_rows hx o l (fun r' hr => h r' (List.mem_cons_of_mem _ hr))
    have h1 := lists_dec (h r List.mem_cons_self).1 hx
    unfold rowS at ih ⊢
    rw [show rowsT (r :: l) = ⟨[decS r.1], decS r.2⟩ :: rowsT l from rfl, List.find?_cons, wantL]
    simp only [h1]
    by_cases e : r.1 = x
    · rw [decide_eq_true e, if_pos e]
    · rw [decide_eq_false e, if_neg e]
      exact ih
theorem fAt_rows {rows : List (Int × Int)} {x o : Int} (hr : ∀ r ∈ rows, in8 r.1 ∧ in8 r.2) (hx : in8 x) (ho : in8 o) : fAt (tbR rows (decS o)) (decS x) = some (wantL x o rows) := by
  have hi : idxOf (fun x : Tb => x.f0.toList == fS.toList) (tbR rows (decS o)) = 0 := idxOf_hit (fun x : Tb => x.f0.toList == fS.toList) (tbR rows (decS o)) tbF 0 (by show 0 < 2; decide) (by show (fS.toList == fS.toList) = true; simp) (fun j hj => absurd hj (Nat.not_lt_zero _))
  unfold fAt
  rw [hi, if_neg (by decide), (okP_at x hx.1 hx.2).1]
  show parseS (rowS (rowsT rows) [decS x] (decS o)) = _
  rw [rowS_rows hx o rows hr]
  have := wantL_in8 (x := x) ho hr
  exact (okP_at _ this.1 this.2).1
set_option maxHeartbeats 8000000 in
set_option maxRecDepth 100000 in
theorem rows_calls (rows : List (Int × Int)) (x o : Int) (hx : in8 x) (ho : in8 o) (hr : ∀ r ∈ rows, in8 r.1 ∧ in8 r.2) (w : World) (A : Option Addr) (c : Nat) (hC : kPr.C w A rows.length rows) :
    Calls Try.prog 3 #[.slice A rows.length c, .int .i8 x, .int .i8 o] w (Gives w (.bool true)) := by
  have HC := Aside0.mk hC
  have HX := Aside0.mk hx
  have HO := Aside0.mk ho
  have HR := Aside0.mk hr
  have hlm := hC.2.1
  clear hC hr hx ho
  go_enter Try.func3, Try.ntmps3
  go_wp2_with fail
  refine (known_calls w).mono ?_
  rintro e w1 ⟨rfl, hb1⟩
  have HB1 := Aside0.mk hb1
  clear hb1
  by_cases hl : 30 < rows.length
  · have hl' : decide ((30 : Int) < (rows.length : Int)) = true := decide_eq_true (by omega)
    clear hl
    go_wp2
    go_ret
    exact ⟨rfl, HB1.out⟩
  · have hl' : decide ((30 : Int) < (rows.length : Int)) = false := decide_eq_false (by omega)
    have hlen : rows.length ≤ 30 := by omega
    clear hl hlm
    go_wp2_with fail
    refine (text_calls o HO.out.1 HO.out.2 w1).mono ?_
    obtain ⟨so, hso⟩ : ∃ so, so = decS o := ⟨_, rfl⟩
    rw [← hso]
    have HSO := Aside0.mk hso
    clear hso
    rintro e w2 ⟨rfl, hb2⟩
    have HB2 := Aside0.mk (below_step HB1.out hb2)
    clear hb2
    go_wp2_with fail
    obtain ⟨g8, hg8⟩ : ∃ g8, g8 = w2.heap.size := ⟨_, rfl⟩
    rw [← hg8]
    obtain ⟨w8, hw8⟩ : ∃ w8, w8 = w2.alloc (.cells #[.string ⟨#[102]⟩, .slice none 0 0, .string so] 28) := ⟨_, rfl⟩
    rw [← hw8]
    have hb8 : Below w2.heap.size w2 w8 := by rw [hw8]; exact (Below.refl _ _).alloc (Nat.le_refl _) _
    have hz8 : g8 = w2.heap.size := by rw [hg8]
    have hx8 : w8.heap[g8]? = some (.cells #[.string ⟨#[102]⟩, .slice none 0 0, .string so] 28 (0, 0)) := by rw [hw8, hz8]; exact blk_new _ _
    have HX8 := Aside0.mk hx8
    have HB8 := Aside0.mk hb8
    have HG8 := Aside0.mk hg8
    clear hg8 hw8 hb8 hz8 hx8
    have HB8' := Aside0.mk (below_step HB2.out HB8.out)
    have HG8' := Aside0.mk (show w.heap.size ≤ g8 from by have := HG8.out; have := HB2.out.size; omega)
    refine (text_calls o HO.out.1 HO.out.2 w8).mono ?_
    rw [← HSO.out]
    rintro e w27 ⟨rfl, hb27⟩
    have HX827 := Aside0.mk (blk_below HX8.out hb27)
    have HB27 := Aside0.mk (below_step HB8'.out hb27)
    clear hb27
    go_wp2_with fail
    go_loopg [9, 10] 31 (fun gg v9 v10 wr => ∃ (k : Nat) (i : Int) (s : ByteArray), k ≤ rows.length ∧ k ≤ gg ∧ v10 = .int .i64 i ∧ v9 = .string s ∧ -1 ≤ i ∧ i ≤ 30 ∧ Aside0 (i = (k : Int) - 1 ∧ s = decS (wantL x o (rows.drop k))) ∧ Aside0 (Below w27.heap.size w27 wr))
    case atStart => exact ⟨rows.length, (rows.length : Int) - 1, so, Nat.le_refl _, by omega, rfl, rfl, by omega, by omega, ⟨rfl, by rw [List.drop_length, HSO.out]; rfl⟩, ⟨Below.refl _ _⟩⟩
    case round =>
      obtain ⟨k, i, s, hk, hgg, rfl, rfl, hi0, hi1, HK, BW⟩ := hrel
      by_cases hi : 0 ≤ i
      · obtain ⟨j, rfl⟩ := Int.eq_ofNat_of_zero_le hi
        have hj : j < rows.length := by have := HK.out.1; omega
        obtain ⟨ad, e, hc0, hc1⟩ := kPr_at (Kd.C_below HC.out (below_step HB27.out BW.out)) j hj
        subst e
        have HW := Aside0.mk (wantL_drop x o rows j hj)
        have HM := Aside0.mk (HR.out (rows.getD j (0, 0)) (by rw [List.getD_eq_getElem?_getD, List.getElem?_eq_getElem hj]; exact List.getElem_mem hj))
        have HKJ := Aside0.mk (show k = j + 1 from by have := HK.out.1; omega)
        have hgj : j < gk := by have := HKJ.out; omega
        obtain ⟨r, hre⟩ : ∃ r, r = rows.getD j (0, 0) := ⟨_, rfl⟩
        rw [← hre] at hc0 hc1 HW HM
        obtain ⟨r1, r2⟩ := r
        replace hc0 : wr.cell? (ad.add (j * 2)) = some (.int .i8 r1) := hc0
        replace hc1 : wr.cell? ⟨(ad.add (j * 2)).block, (ad.add (j * 2)).off + 1, none⟩ = some (.int .i8 r2) := hc1
        have hjl : (j : Int) < (rows.length : Int) := by omega
        clear hre hi hi0
        cases hq : (r1 == x) with
        | true =>
          go_wp2_with fail
          refine (text_calls r2 HM.out.2.1 HM.out.2.2 wr).mono ?_
          obtain ⟨s', hs'⟩ : ∃ s', s' = decS r2 := ⟨_, rfl⟩
          rw [← hs']
          have HS' := Aside0.mk hs'
          clear hs'
          rintro e wn ⟨rfl, hbn⟩
          have BN := Aside0.mk (below_step BW.out hbn)
          have HQ := Aside0.mk hq
          clear hbn hq hc0 hc1
          go_wp2
          go_roundg j
          case measure => omega
          case rel =>
            refine ⟨j, (j : Int) - 1, s', by omega, Nat.le_refl _, by go_num, rfl, by omega, by omega, ⟨rfl, ?_⟩, BN⟩
            rw [HW.out, if_pos (by simpa using HQ.out), HS'.out]
        | false =>
          go_wp2
          go_roundg j
          case measure => omega
          case rel =>
            refine ⟨j, (j : Int) - 1, s, by omega, Nat.le_refl _, by go_num, rfl, by omega, by omega, ⟨rfl, ?_⟩, BW⟩
            rw [HW.out, if_neg (by simpa using hq), HK.out.2, HKJ.out]
      · have hi' : i = -1 := by omega
        have HS := Aside0.mk (show s = decS (wantL x o rows) from by
          have h0 : k = 0 := by have := HK.out.1; omega
          have := HK.out.2
          rwa [h0] at this)
        subst hi'
        have HX8r := Aside0.mk (blk_below HX827.out BW.out)
        have HBR := Aside0.mk (below_step HB27.out BW.out)
        clear hi hi0 hi1
        go_wp2
        go_loopg [11] 31 (fun gg v11 wr2 => ∃ (m : Nat) (v : Value), m ≤ rows.length ∧ rows.length - m ≤ gg ∧ v11 = .int .i64 m ∧ Aside0 (wr2.heap[g8]? = some (.cells #[.string ⟨#[102]⟩, v, .string so] 28 (0, 0))) ∧ Aside0 (kRw.R 32 wr2 w.heap.size (fun k => k ≠ g8) v (rowsT (rows.take m))) ∧ Aside0 (Below w.heap.size w wr2))
        case atStart => exact ⟨0, .slice none 0 0, Nat.zero_le _, by omega, rfl, HX8r, ⟨Kd.R_nil _ _ _ _ _⟩, HBR⟩
        case round =>
          obtain ⟨m, v, hm, hmg, rfl, HX8m, HRm, BWm⟩ := hrel
          by_cases hlt : m < rows.length
          · obtain ⟨ad, e, hc0, hc1⟩ := kPr_at HC.out m hlt
            subst e
            have HM := Aside0.mk (HR.out (rows.getD m (0, 0)) (by rw [List.getD_eq_getElem?_getD, List.getElem?_eq_getElem hlt]; exact List.getElem_mem hlt))
            have HT := Aside0.mk (rowsT_take rows m hlt)
            obtain ⟨r, hre⟩ : ∃ r, r = rows.getD m (0, 0) := ⟨_, rfl⟩
            rw [← hre] at hc0 hc1 HM HT
            obtain ⟨r1, r2⟩ := r
            replace hc0 : w.cell? (ad.add (m * 2)) = some (.int .i8 r1) := hc0
            replace hc1 : w.cell? ⟨(ad.add (m * 2)).block, (ad.add (m * 2)).off + 1, none⟩ = some (.int .i8 r2) := hc1
            have HC00 := Aside0.mk (And.intro hc0 hc1)
            replace hc0 := keepc BWm.out hc0
            replace hc1 := keepc BWm.out hc1
            have hml : (m : Int) < (rows.length : Int) := by omega
            have c81 : wr.cell? ⟨g8, 1, none⟩ = some v := (blk_cell HX8m.out 1).trans rfl
            have f81 : wr.frozen? ⟨g8, 1, none⟩ = false := blk_frozen HX8m.out 1
            clear hre
            go_wp2
            have HC0 := Aside0.mk (And.intro c81 (And.intro hc0 hc1))
            clear c81 hc0 hc1 f81
            refine wp_region_upTo (fun W => W.cell? ⟨g8, 1, none⟩ = some v ∧ W.cell? (ad.add (m * 2)) = some (.int .i8 r1) ∧ W.cell? ⟨(ad.add (m * 2)).block, (ad.add (m * 2)).off + 1, none⟩ = some (.int .i8 r2)) 21 (by kernel_rfl) HC0.out (fun hS => ?_)
            refine UpTo.take (i := 0) rfl (by kernel_rfl) (fun _ _ _ h => h) (by decide) (by kernel_rfl) _ _ _ _ (by kernel_rfl) (by kernel_rfl) (Or.inl ⟨by rfl, by (intro w hSw; (try dsimp only at hSw); go_simp; (try rfl))⟩) hS ?_
            (try simp only [Act.put, List.setIfInBounds_toArray, List.set_cons_zero, List.set_cons_succ])
            refine UpTo.take (i := 1) rfl (by kernel_rfl) (fun _ _ _ h => h) (by decide) (by kernel_rfl) _ _ _ _ (by kernel_rfl) (by kernel_rfl) (Or.inl ⟨by rfl, by (intro w hSw; (try dsimp only at hSw); go_simp; (try rfl))⟩) hS ?_
            (try simp only [Act.put, List.setIfInBounds_toArray, List.set_cons_zero, List.set_cons_succ])
            refine UpTo.take (i := 2) rfl (by kernel_rfl) (fun _ _ _ h => h) (by decide) (by kernel_rfl) _ _ _ _ (by kernel_rfl) (by kernel_rfl) (Or.inl ⟨by rfl, by (intro w hSw; (try dsimp only at hSw); go_simp; (try rfl))⟩) hS ?_
            (try simp only [Act.put, List.setIfInBounds_toArray, List.set_cons_zero, List.set_cons_succ])
            refine UpTo.take (i := 3) rfl (by kernel_rfl) (fun _ _ _ h => h) (by decide) (by kernel_rfl) _ _ _ _ (by kernel_rfl) (by kernel_rfl) (Or.inl ⟨by rfl, by (intro w hSw; (try dsimp only at hSw); go_simp; (try rfl))⟩) hS ?_
            (try simp only [Act.put, List.setIfInBounds_toArray, List.set_cons_zero, List.set_cons_succ])
            refine UpTo.take (i := 4) rfl (by kernel_rfl) (fun _ _ _ h => h) (by decide) (by kernel_rfl) _ _ _ _ (by kernel_rfl) (by kernel_rfl) (Or.inl ⟨by rfl, by (intro w hSw; (try dsimp only at hSw); go_simp; (try rfl))⟩) hS ?_
            (try simp only [Act.put, List.setIfInBounds_toArray, List.set_cons_zero, List.set_cons_succ])
            refine UpTo.take (i := 5) rfl (by kernel_rfl) (fun _ _ _ h => h) (by decide) (by kernel_rfl) _ _ _ _ (by kernel_rfl) (by kernel_rfl) (Or.inl ⟨by rfl, by (intro w hSw; (try dsimp only at hSw); go_simp; (try rfl))⟩) hS ?_
            (try simp only [Act.put, List.setIfInBounds_toArray, List.set_cons_zero, List.set_cons_succ])
            refine UpTo.take (i := 6) rfl (by kernel_rfl) (fun _ _ _ h => h) (by decide) (by kernel_rfl) _ _ _ _ (by kernel_rfl) (by kernel_rfl) (Or.inl ⟨by rfl, by (intro w hSw; (try dsimp only at hSw); go_simp; (try rfl))⟩) hS ?_
            (try simp only [Act.put, List.setIfInBounds_toArray, List.set_cons_zero, List.set_cons_succ])
            refine UpTo.take (i := 7) rfl (by kernel_rfl) (fun _ _ _ h => h) (by decide) (by kernel_rfl) _ _ _ _ (by kernel_rfl) (by kernel_rfl) (Or.inl ⟨by rfl, by (intro w hSw; (try dsimp only at hSw); go_simp; (try rfl))⟩) hS ?_
            (try simp only [Act.put, List.setIfInBounds_toArray, List.set_cons_zero, List.set_cons_succ])
            refine UpTo.take (i := 10) rfl (by kernel_rfl) (fun _ _ _ h => h) (by decide) (by kernel_rfl) _ _ _ _ (by kernel_rfl) (by kernel_rfl) (Or.inl ⟨by rfl, by (intro w hSw; (try dsimp only at hSw); go_simp; (try rfl))⟩) hS ?_
            (try simp only [Act.put, List.setIfInBounds_toArray, List.set_cons_zero, List.set_cons_succ])
            refine UpTo.take (i := 11) rfl (by kernel_rfl) (fun _ _ _ h => h) (by decide) (by kernel_rfl) _ _ _ _ (by kernel_rfl) (by kernel_rfl) (Or.inl ⟨by rfl, by (intro w hSw; (try dsimp only at hSw); go_simp; (try rfl))⟩) hS ?_
            (try simp only [Act.put, List.setIfInBounds_toArray, List.set_cons_zero, List.set_cons_succ])
            refine UpTo.take (i := 12) rfl (by kernel_rfl) (fun _ _ _ h => h) (by decide) (by kernel_rfl) _ _ _ _ (by kernel_rfl) (by kernel_rfl) (Or.inl ⟨by rfl, by (intro w hSw; (try dsimp only at hSw); go_simp; (try rfl))⟩) hS ?_
            (try simp only [Act.put, List.setIfInBounds_toArray, List.set_cons_zero, List.set_cons_succ])
            refine UpTo.take (i := 13) rfl (by kernel_rfl) (fun _ _ _ h => h) (by decide) (by kernel_rfl) _ _ _ _ (by kernel_rfl) (by kernel_rfl) (Or.inl ⟨by rfl, by (intro w hSw; (try dsimp only at hSw); go_simp; (try rfl))⟩) hS ?_
            (try simp only [Act.put, List.setIfInBounds_toArray, List.set_cons_zero, List.set_cons_succ])
            refine UpTo.take (i := 14) rfl (by kernel_rfl) (fun _ _ _ h => h) (by decide) (by kernel_rfl) _ _ _ _ (by kernel_rfl) (by kernel_rfl) (Or.inl ⟨by rfl, by (intro w hSw; (try dsimp only at hSw); go_simp; (try rfl))⟩) hS ?_
            (try simp only [Act.put, List.setIfInBounds_toArray, List.set_cons_zero, List.set_cons_succ])
            refine UpTo.take (i := 15) rfl (by kernel_rfl) (fun _ _ _ h => h) (by decide) (by kernel_rfl) _ _ _ _ (by kernel_rfl) (by kernel_rfl) (Or.inl ⟨by rfl, by (intro w hSw; (try dsimp only at hSw); go_simp; (try rfl))⟩) hS ?_
            (try simp only [Act.put, List.setIfInBounds_toArray, List.set_cons_zero, List.set_cons_succ])
            refine UpTo.one (i := 8) (by kernel_rfl) rfl (fun K hK => ?_)
            go_simp
            refine (text_calls r1 HM.out.1.1 HM.out.1.2 _).mono ?_
            rintro e wA ⟨rfl, hbA⟩
            have HBA := Aside0.mk ((Below.refl wr.heap.size wr).drew.trans hbA)
            have hSA := keep3 HC0.out HBA.out
            clear hbA
            refine hK.out _ _ (fun _ => hSA) ?_
            clear hK K
            (try simp only [Act.put, List.setIfInBounds_toArray, List.set_cons_zero, List.set_cons_succ])
            refine UpTo.two (i := 9) (i' := 16) (by kernel_rfl) rfl rfl (fun K hK => ?_) (fun K hK => ?_)
            · go_simp
              obtain ⟨g9, hg9⟩ : ∃ g9, g9 = wA.heap.size := ⟨_, rfl⟩
              obtain ⟨wB, hwB⟩ : ∃ wB, wB = wA.alloc (.cells #[.string (decS r1)] 9) := ⟨_, rfl⟩
              rw [← hg9, ← hwB]
              have HX9 := Aside0.mk (show wB.heap[g9]? = some (.cells #[.string (decS r1)] 9 (0, 0)) from by rw [hwB, hg9]; exact blk_new _ _)
              have HBB := Aside0.mk (below_step HBA.out (show Below wA.heap.size wA wB from by rw [hwB]; exact (Below.refl _ _).alloc (Nat.le_refl _) _))
              have HG9 := Aside0.mk (show wr.heap.size ≤ g9 from by have := HBA.out.size; omega)
              have hSB := keep3 HC0.out HBB.out
              clear hg9 hwB
              refine hK.out _ _ (fun _ => hSB) ?_
              clear hK K
              (try simp only [Act.put, List.setIfInBounds_toArray, List.set_cons_zero, List.set_cons_succ])
              refine UpTo.one (i := 16) (by kernel_rfl) rfl (fun K hK => ?_)
              go_simp
              refine (text_calls r2 HM.out.2.1 HM.out.2.2 _).mono ?_
              rintro e wC ⟨rfl, hbC⟩
              have HBC := Aside0.mk (below_step HBB.out hbC)
              have hSC := keep3 HC0.out HBC.out
              have HX9' := Aside0.mk (blk_below HX9.out hbC)
              clear hbC
              refine hK.out _ _ (fun _ => hSC) ?_
              clear hK K
              (try simp only [Act.put, List.setIfInBounds_toArray, List.set_cons_zero, List.set_cons_succ])
              refine UpTo.take (i := 17) rfl (by kernel_rfl) (fun _ _ _ h => h) (by decide) (by kernel_rfl) _ _ _ _ (by kernel_rfl) (by kernel_rfl) (Or.inl ⟨by rfl, by (intro w hSw; (try dsimp only at hSw); go_simp; (try rfl))⟩) hSC ?_
              (try simp only [Act.put, List.setIfInBounds_toArray, List.set_cons_zero, List.set_cons_succ])
              refine UpTo.one (i := 18) (by kernel_rfl) rfl (fun K hK => ?_)
              go_simp
              have hSD := keep3 HC0.out ((HBC.out).alloc HBC.out.size (.cells [.slice (some ⟨g9, 0, none⟩) 1 1, .string (decS r2)].toArray 32))
              refine hK.out _ _ (fun _ => hSD) ?_
              clear hK K
              (try simp only [Act.put, List.setIfInBounds_toArray, List.set_cons_zero, List.set_cons_succ])
              refine UpTo.one (i := 19) (by kernel_rfl) rfl (fun K hK => ?_)
              have HBw := Aside0.mk (below_step BWm.out HBC.out)
              refine Kd.R_append_step kRw (w0 := w) w.heap.size rfl _ _ 26 32 (.agg #[.slice none 0 0, .string ⟨#[]⟩]) 40 rfl Try.underlying26 info_Rw rfl (by decide) (by decide) v (rowsT (rows.take m)) ⟨[decS r1], decS r2⟩ [.slice (some ⟨g9, 0, none⟩) 1 1, .string (decS r2)] (fun k => k ≠ g8) (fun k => k = g9) rfl rfl (kRw_mkM _ _ _ _ (lit_R HX9'.out (by have := HG9.out; have := BWm.out.size; omega))) (row_new HRm.out HG9.out (by have := blk_lt HX8m.out; have := HG9.out; omega)) (by intro k hk; have h1 := blk_lt HX8m.out; have h2 := HBC.out.size; omega) (Kd.R_below HRm.out HBC.out) HBw.out HBw.out.size (by rw [rowsT_len, List.length_take]; omega) ?_
              intro v1 w1 hR1 hB1 hg1 hat1
              obtain ⟨A1, n1, c1, rfl⟩ := R_form hR1
              have hx8 := grown_keep hg1 (blk_below HX8m.out HBC.out) HRm.out
              have HSE := Aside0.mk (show w1.cell? ⟨g8, 1, none⟩ = some v ∧ w1.cell? (ad.add (m * 2)) = some (.int .i8 r1) ∧ w1.cell? ⟨(ad.add (m * 2)).block, (ad.add (m * 2)).off + 1, none⟩ = some (.int .i8 r2) from ⟨(blk_cell hx8 1).trans rfl, by have h := HC00.out.1; exact (hB1.cell (World.block_lt_of_cell? _ _ h)).trans h, by have h := HC00.out.2; exact (hB1.cell (World.block_lt_of_cell? _ _ h)).trans h⟩)
              have hSE := HSE.out
              refine hK.out _ _ (fun _ => hSE) ?_
              clear hK K
              (try simp only [Act.put, List.setIfInBounds_toArray, List.set_cons_zero, List.set_cons_succ])
              refine UpTo.take (i := 20) rfl (by kernel_rfl) (fun _ _ _ h => h) (by decide) (by kernel_rfl) _ _ _ _ (by kernel_rfl) (by kernel_rfl) (Or.inl ⟨by rfl, by (intro w hSw; (try dsimp only at hSw); go_simp; (try rfl))⟩) hSE ?_
              (try simp only [Act.put, List.setIfInBounds_toArray, List.set_cons_zero, List.set_cons_succ])
              refine UpTo.one (i := 21) (by kernel_rfl) rfl (fun K hK => ?_)
              have f81 := blk_frozen hx8 1
              have c81 := hSE.1
              have HX8E := Aside0.mk (show (w1.setCell ⟨g8, 1, none⟩ (.slice A1 n1 c1)).heap[g8]? = some (.cells #[.string ⟨#[102]⟩, .slice A1 n1 c1, .string so] 28 (0, 0)) from blk_set hx8 1 (.slice A1 n1 c1))
              have HRE := Aside0.mk (Kd.R_far hR1 (p := ⟨g8, 1, none⟩) (fun k hk => hk) (.slice A1 n1 c1))
              have HBE := Aside0.mk (hB1.setCell (p := ⟨g8, 1, none⟩) HG8'.out (.slice A1 n1 c1))
              clear hx8 hR1 hB1 hg1 hat1 hSE hSA hSB hSC hSD
              go_simp
              refine hK.out _ _ (fun h => absurd rfl h) ?_
              clear hK K
              (try simp only [Act.put, List.setIfInBounds_toArray, List.set_cons_zero, List.set_cons_succ])
              refine UpTo.done (by kernel_rfl) ?_ _
              go_wp2
              go_roundg (rows.length - (m + 1))
              case measure => omega
              case rel => exact ⟨m + 1, .slice A1 n1 c1, by omega, Nat.le_refl _, by go_num, HX8E, ⟨by rw [HT.out]; exact HRE.out⟩, HBE⟩
            · go_simp
              refine (text_calls r2 HM.out.2.1 HM.out.2.2 _).mono ?_
              rintro e wC ⟨rfl, hbC⟩
              have HBC := Aside0.mk (below_step HBA.out hbC)
              have hSC := keep3 HC0.out HBC.out
              clear hbC
              refine hK.out _ _ (fun _ => hSC) ?_
              clear hK K
              (try simp only [Act.put, List.setIfInBounds_toArray, List.set_cons_zero, List.set_cons_succ])
              refine UpTo.one (i := 9) (by kernel_rfl) rfl (fun K hK => ?_)
              go_simp
              obtain ⟨g9, hg9⟩ : ∃ g9, g9 = wC.heap.size := ⟨_, rfl⟩
              obtain ⟨wB, hwB⟩ : ∃ wB, wB = wC.alloc (.cells #[.string (decS r1)] 9) := ⟨_, rfl⟩
              rw [← hg9, ← hwB]
              have HX9 := Aside0.mk (show wB.heap[g9]? = some (.cells #[.string (decS r1)] 9 (0, 0)) from by rw [hwB, hg9]; exact blk_new _ _)
              have HBB := Aside0.mk (below_step HBC.out (show Below wC.heap.size wC wB from by rw [hwB]; exact (Below.refl _ _).alloc (Nat.le_refl _) _))
              have HG9 := Aside0.mk (show wr.heap.size ≤ g9 from by have := HBC.out.size; omega)
              have HX9' := HX9
              have hSB := keep3 HC0.out HBB.out
              clear hg9 hwB
              refine hK.out _ _ (fun _ => hSB) ?_
              clear hK K
              (try simp only [Act.put, List.setIfInBounds_toArray, List.set_cons_zero, List.set_cons_succ])
              refine UpTo.take (i := 17) rfl (by kernel_rfl) (fun _ _ _ h => h) (by decide) (by kernel_rfl) _ _ _ _ (by kernel_rfl) (by kernel_rfl) (Or.inl ⟨by rfl, by (intro w hSw; (try dsimp only at hSw); go_simp; (try rfl))⟩) hSB ?_
              (try simp only [Act.put, List.setIfInBounds_toArray, List.set_cons_zero, List.set_cons_succ])
              refine UpTo.one (i := 18) (by kernel_rfl) rfl (fun K hK => ?_)
              go_simp
              have hSD := keep3 HC0.out ((HBB.out).alloc HBB.out.size (.cells [.slice (some ⟨g9, 0, none⟩) 1 1, .string (decS r2)].toArray 32))
              refine hK.out _ _ (fun _ => hSD) ?_
              clear hK K
              (try simp only [Act.put, List.setIfInBounds_toArray, List.set_cons_zero, List.set_cons_succ])
              refine UpTo.one (i := 19) (by kernel_rfl) rfl (fun K hK => ?_)
              have HBw := Aside0.mk (below_step BWm.out HBB.out)
              refine Kd.R_append_step kRw (w0 := w) w.heap.size rfl _ _ 26 32 (.agg #[.slice none 0 0, .string ⟨#[]⟩]) 40 rfl Try.underlying26 info_Rw rfl (by decide) (by decide) v (rowsT (rows.take m)) ⟨[decS r1], decS r2⟩ [.slice (some ⟨g9, 0, none⟩) 1 1, .string (decS r2)] (fun k => k ≠ g8) (fun k => k = g9) rfl rfl (kRw_mkM _ _ _ _ (lit_R HX9'.out (by have := HG9.out; have := BWm.out.size; omega))) (row_new HRm.out HG9.out (by have := blk_lt HX8m.out; have := HG9.out; omega)) (by intro k hk; have h1 := blk_lt HX8m.out; have h2 := HBB.out.size; omega) (Kd.R_below HRm.out HBB.out) HBw.out HBw.out.size (by rw [rowsT_len, List.length_take]; omega) ?_
              intro v1 w1 hR1 hB1 hg1 hat1
              obtain ⟨A1, n1, c1, rfl⟩ := R_form hR1
              have hx8 := grown_keep hg1 (blk_below HX8m.out HBB.out) HRm.out
              have HSE := Aside0.mk (show w1.cell? ⟨g8, 1, none⟩ = some v ∧ w1.cell? (ad.add (m * 2)) = some (.int .i8 r1) ∧ w1.cell? ⟨(ad.add (m * 2)).block, (ad.add (m * 2)).off + 1, none⟩ = some (.int .i8 r2) from ⟨(blk_cell hx8 1).trans rfl, by have h := HC00.out.1; exact (hB1.cell (World.block_lt_of_cell? _ _ h)).trans h, by have h := HC00.out.2; exact (hB1.cell (World.block_lt_of_cell? _ _ h)).trans h⟩)
              have hSE := HSE.out
              refine hK.out _ _ (fun _ => hSE) ?_
              clear hK K
              (try simp only [Act.put, List.setIfInBounds_toArray, List.set_cons_zero, List.set_cons_succ])
              refine UpTo.take (i := 20) rfl (by kernel_rfl) (fun _ _ _ h => h) (by decide) (by kernel_rfl) _ _ _ _ (by kernel_rfl) (by kernel_rfl) (Or.inl ⟨by rfl, by (intro w hSw; (try dsimp only at hSw); go_simp; (try rfl))⟩) hSE ?_
              (try simp only [Act.put, List.setIfInBounds_toArray, List.set_cons_zero, List.set_cons_succ])
              refine UpTo.one (i := 21) (by kernel_rfl) rfl (fun K hK => ?_)
              have f81 := blk_frozen hx8 1
              have c81 := hSE.1
              have HX8E := Aside0.mk (show (w1.setCell ⟨g8, 1, none⟩ (.slice A1 n1 c1)).heap[g8]? = some (.cells #[.string ⟨#[102]⟩, .slice A1 n1 c1, .string so] 28 (0, 0)) from blk_set hx8 1 (.slice A1 n1 c1))
              have HRE := Aside0.mk (Kd.R_far hR1 (p := ⟨g8, 1, none⟩) (fun k hk => hk) (.slice A1 n1 c1))
              have HBE := Aside0.mk (hB1.setCell (p := ⟨g8, 1, none⟩) HG8'.out (.slice A1 n1 c1))
              clear hx8 hR1 hB1 hg1 hat1 hSE hSA hSB hSC hSD
              go_simp
              refine hK.out _ _ (fun h => absurd rfl h) ?_
              clear hK K
              (try simp only [Act.put, List.setIfInBounds_toArray, List.set_cons_zero, List.set_cons_succ])
              refine UpTo.done (by kernel_rfl) ?_ _
              go_wp2
              go_roundg (rows.length - (m + 1))
              case measure => omega
              case rel => exact ⟨m + 1, .slice A1 n1 c1, by omega, Nat.le_refl _, by go_num, HX8E, ⟨by rw [HT.out]; exact HRE.out⟩, HBE⟩
          · have hme : m = rows.length := by omega
            have HRr := Aside0.mk (show kRw.R 32 wr w.heap.size (fun k => k ≠ g8) v (rowsT rows) from by
              have := HRm.out
              rwa [hme, List.take_length] at this)
            clear hme
            obtain ⟨AR, cR, rfl, hlR, hCR⟩ := Kd.R_reads HRr.out
            have HCR := Aside0.mk hCR
            obtain ⟨nR, hnR⟩ : ∃ nR, nR = (rowsT rows).length := ⟨_, rfl⟩
            rw [← hnR] at HX8m
            have HNR := Aside0.mk hnR
            have HLR := Aside0.mk hlR
            clear hCR hnR hlR
            go_wp2_with fail
            obtain ⟨g76, hg76⟩ : ∃ g76, g76 = wr.heap.size := ⟨_, rfl⟩
            obtain ⟨g78, hg78⟩ : ∃ g78, g78 = wr.heap.size + 1 := ⟨_, rfl⟩
            rw [← hg78, ← hg76]
            obtain ⟨w76, hw76⟩ : ∃ w76, w76 = wr.alloc (.cells #[.int .i64 1] 3) := ⟨_, rfl⟩
            rw [← hw76]
            have hb76 : Below wr.heap.size wr w76 := by rw [hw76]; exact (Below.refl _ _).alloc (Nat.le_refl _) _
            obtain ⟨w78, hw78⟩ : ∃ w78, w78 = w76.alloc (.cells #[.string ⟨#[102]⟩, .slice (some ⟨g76, 0, none⟩) 1 1, .int .i64 1] 35) := ⟨_, rfl⟩
            rw [← hw78]
            have hb78 : Below w76.heap.size w76 w78 := by rw [hw78]; exact (Below.refl _ _).alloc (Nat.le_refl _) _
            have hz76 : g76 = wr.heap.size := by rw [hg76]
            have hx76 : w76.heap[g76]? = some (.cells #[.int .i64 1] 3 (0, 0)) := by rw [hw76, hz76]; exact blk_new _ _
            have hz78 : g78 = w76.heap.size := by rw [hg78]; simp [hw76]
            have hx78 : w78.heap[g78]? = some (.cells #[.string ⟨#[102]⟩, .slice (some ⟨g76, 0, none⟩) 1 1, .int .i64 1] 35 (0, 0)) := by rw [hw78, hz78]; exact blk_new _ _
            have HX76 := Aside0.mk (blk_below hx76 hb78)
            have HX78 := Aside0.mk hx78
            have HB78 := Aside0.mk (below_step hb76 hb78)
            have HG76 := Aside0.mk hg76
            have HG78 := Aside0.mk hg78
            clear hg78 hw78 hb78 hz78 hx78 hg76 hw76 hb76 hz76 hx76
            have HSg := Aside0.mk (show kSg.C w78 (some ⟨g78, 0, none⟩) 1 sigF from lit_C1 HX78.out (⟨fS, [1], 1⟩ : Sg) (kSg_mk w78 ⟨fS, [1], 1⟩ (Nat.le_refl _) (lit_C1 HX76.out (1 : Int) rfl)))
            refine (text_calls x HX.out.1 HX.out.2 w78).mono ?_
            obtain ⟨sx, hsx⟩ : ∃ sx, sx = decS x := ⟨_, rfl⟩
            rw [← hsx]
            have HSX := Aside0.mk hsx
            clear hsx
            rintro e w81 ⟨rfl, hb81⟩
            have HB81 := Aside0.mk (below_step HB78.out hb81)
            have HSg81 := Aside0.mk (Kd.C_below HSg.out hb81)
            have HX881 := Aside0.mk (blk_below HX8m.out HB81.out)
            clear hb81
            go_wp2_with (first
              | ((with_reducible refine gate_dst (N := 87) rfl ?_); (obtain ⟨g83, hg83⟩ : ∃ g83, g83 = w81.heap.size := ⟨_, rfl⟩); (obtain ⟨g13, hg13⟩ : ∃ g13, g13 = w81.heap.size + 1 := ⟨_, rfl⟩); rw [← hg13]; rw [← hg83]; (obtain ⟨w83, hw83⟩ : ∃ w83, w83 = w81.alloc (.cells #[.int .i64 1, .string ⟨#[]⟩, .int .i64 0, .string sx, .slice none 0 0, .slice none 0 0, .slice none 0 0] 40) := ⟨_, rfl⟩); (obtain ⟨w13, hw13⟩ : ∃ w13, w13 = w83.alloc (.cells #[.int .i64 17, .string ⟨#[102]⟩, .int .i64 0, .string ⟨#[]⟩, .slice (some ⟨g83, 0, none⟩) 1 1, .slice none 0 0, .slice none 0 0] 40) := ⟨_, rfl⟩); rw [← hw83]; rw [← hw13]; (have hb83 : Below w81.heap.size w81 w83 := (by rw [hw83]; exact (Below.refl _ _).alloc (Nat.le_refl _) _)); (have hb13 : Below w83.heap.size w83 w13 := (by rw [hw13]; exact (Below.refl _ _).alloc (Nat.le_refl _) _)); (have HX83 := Aside0.mk (show w83.heap[g83]? = some (.cells #[.int .i64 1, .string ⟨#[]⟩, .int .i64 0, .string sx, .slice none 0 0, .slice none 0 0, .slice none 0 0] 40 (0, 0)) from (by rw [hw83, hg83]; exact blk_new _ _))); (have HX13 := Aside0.mk (show w13.heap[g13]? = some (.cells #[.int .i64 17, .string ⟨#[102]⟩, .int .i64 0, .string ⟨#[]⟩, .slice (some ⟨g83, 0, none⟩) 1 1, .slice none 0 0, .slice none 0 0] 40 (0, 0)) from (by rw [hw13, hg13, show w81.heap.size + 1 = w83.heap.size from (by rw [hw83]; simp)]; exact blk_new _ _))); have HG83 := Aside0.mk hg83; have HG13 := Aside0.mk hg13; clear hw83 hw13 hg83 hg13; have HX83' := Aside0.mk (blk_below HX83.out hb13); have HX813 := Aside0.mk (blk_below HX881.out (below_step hb83 hb13)); have HB13 := Aside0.mk (below_step hb83 hb13); clear hb83 hb13)
              | ((with_reducible refine gate_dst (N := 87) rfl ?_); refine wpList_load_row rfl 28 _ rfl g8 rfl 28 #[.string ⟨#[102]⟩, .slice AR nR cR, .string so] (0, 0) _ HX813.out Try.underlying28 rfl size_Tb ?_)
              | ((with_reducible refine gate_dst (N := 91) rfl ?_); (obtain ⟨w89, hw89⟩ : ∃ w89, w89 = w13.alloc (.cells #[.string ⟨#[102]⟩, .slice AR nR cR, .string so, .string ⟨#[102]⟩, .slice none 0 0, .string ⟨#[55, 55]⟩] 28) := ⟨_, rfl⟩); (obtain ⟨g89, hg89⟩ : ∃ g89, g89 = w13.heap.size := ⟨_, rfl⟩); rw [← hw89]; rw [← hg89]; (have hb89 : Below w13.heap.size w13 w89 := (by rw [hw89]; exact (Below.refl _ _).alloc (Nat.le_refl _) _)); (have HX89 := Aside0.mk (show w89.heap[g89]? = some (.cells #[.string ⟨#[102]⟩, .slice AR nR cR, .string so, .string ⟨#[102]⟩, .slice none 0 0, .string ⟨#[55, 55]⟩] 28 (0, 0)) from (by rw [hw89, hg89]; exact blk_new _ _))); have HG89 := Aside0.mk hg89; clear hw89 hg89; have HX1389 := Aside0.mk (blk_below HX13.out hb89); have HX8389 := Aside0.mk (blk_below HX83'.out hb89); have HB89 := Aside0.mk (below_step HB13.out hb89); clear hb89)
              | ((with_reducible refine gate_dst (N := 91) rfl ?_); refine wpList_load_row rfl 40 _ rfl g13 rfl 40 #[.int .i64 17, .string ⟨#[102]⟩, .int .i64 0, .string ⟨#[]⟩, .slice (some ⟨g83, 0, none⟩) 1 1, .slice none 0 0, .slice none 0 0] (0, 0) _ HX1389.out Try.underlying40 rfl size_Tm ?_))
            have HTb := Aside0.mk (show kTb.C w89 (some ⟨g89, 0, none⟩) (tbR rows so).length (tbR rows so) from lit_C2 HX89.out (⟨fS, rowsT rows, so⟩ : Tb) (⟨fS, [], ⟨#[55, 55]⟩⟩ : Tb) [.string ⟨#[102]⟩, .slice AR nR cR, .string so] _ rfl
              (by rw [HNR.out]; exact kTb_mk w89 ⟨fS, rowsT rows, so⟩ HLR.out (Kd.C_below HCR.out (below_step HB81.out HB89.out))) (kTb_mk w89 ⟨fS, [], ⟨#[55, 55]⟩⟩ (Nat.le_refl _) (Kd.C_nil _ _)))
            have HKx := Aside0.mk (show kTm.K w89 (apT sx) [.int .i64 17, .string ⟨#[102]⟩, .int .i64 0, .string ⟨#[]⟩, .slice (some ⟨g83, 0, none⟩) 1 1, .slice none 0 0, .slice none 0 0] from kTm_mk w89 (apT sx) (Nat.le_refl _) (lit_C1 HX8389.out (numT sx) (kTm_mk w89 (numT sx) (Nat.le_refl _) (Kd.C_nil _ _) (Nat.le_refl _) (Kd.C_nil _ _) (Nat.le_refl _) (Kd.C_nil _ _))) (Nat.le_refl _) (Kd.C_nil _ _) (Nat.le_refl _) (Kd.C_nil _ _))
            have HPX := Aside0.mk (okP_at x HX.out.1 HX.out.2)
            have HV := Aside0.mk (Value_ap sx (by rw [HSX.out]; exact Nat.le_trans HPX.out.2 (by decide)) (by rw [HSX.out, HPX.out.1]; rfl) (tbR rows so) (by rw [HSO.out]; exact small_tbR HR.out HO.out) w89 _ HKx.out (some ⟨g78, 0, none⟩) (some ⟨g89, 0, none⟩) 1 2 0 (Nat.le_refl _) (Kd.C_below HSg81.out HB89.out) (Nat.le_refl _) HTb.out)
            have HF := Aside0.mk (show (fAt (tbR rows so) sx).map Vl.num = some (Vl.num (wantL x o rows)) from by rw [HSX.out, HSO.out, fAt_rows HR.out HX.out HO.out]; rfl)
            rw [HF.out] at HV
            have HV' : Aside0 (Calls Try.prog 6 #[.slice (some ⟨g78, 0, none⟩) 1 1, .agg #[.slice (some ⟨g89, 0, none⟩) 2 2, .int .i64 0], .agg #[.int .i64 17, .string ⟨#[102]⟩, .int .i64 0, .string ⟨#[]⟩, .slice (some ⟨g83, 0, none⟩) 1 1, .slice none 0 0, .slice none 0 0]] w89 (GivesVal w89 s 0)) := ⟨by rw [HS.out]; exact HV.out⟩
            refine HV'.out.mono ?_
            rintro e w92 ⟨rfl, hb92⟩
            have HB92 := Aside0.mk (below_step BWm.out (below_step HB81.out (below_step HB89.out hb92)))
            clear hb92
            go_wp2
            go_ret
            exact ⟨rfl, HB92.out⟩
end Go.Proofs.Ytiokmnabkccpcaa.Kit
