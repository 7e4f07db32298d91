/- Numbers: a number's text, and num.Parse, walked. -/
import Derived.Test.YtiokmnabkccpcaaB8
import Derived.Test.YtiokmnabkccpcaaB4
set_option linter.unusedVariables false
set_option linter.unusedSimpArgs false
namespace Go.Proofs.Ytiokmnabkccpcaa.Kit
open Go.RowKit Go.Proofs.YtiokmnabkccpcaaW.PrintWords Go.Proofs.YtiokmnabkccpcaaW.PrintLast Go.Proofs.YtiokmnabkccpcaaW.PrintMore

def negS (s : ByteArray) : Bool := decide (bt s 0 = 45)
def restS (s : ByteArray) : ByteArray := if negS s then s.extract 1 s.size else s
def digsTo (r : ByteArray) : Nat → Bool
  | 0 => true
  | k + 1 => digsTo r k && digitB (bt r k)
def decTo (r : ByteArray) : Nat → Int
  | 0 => 0
  | k + 1 => 10 * decTo r k + (bt r k - 48)
/-- Is it a number's right text? -/
def rightS (s : ByteArray) : Bool := decide ((restS s).size ≠ 0) && !(decide (bt (restS s) 0 = 48) && (decide (1 < (restS s).size) || negS s)) && digsTo (restS s) (restS s).size
def numS (s : ByteArray) : Int := if negS s then -(decTo (restS s) (restS s).size) else decTo (restS s) (restS s).size

theorem digsTo_false (s : ByteArray) (k n : Nat) (hk : k < n) (h : digitB (bt s k) = false) : digsTo s n = false := by
  induction n with
  | zero => omega
  | succ n ih =>
    rw [digsTo]
    by_cases e : k = n
    · subst e; rw [h]; simp
    · rw [ih (by omega)]; rfl

/-- A number, as it lies in memory. -/
structure NumAt (w : World) (A : Option Addr) (c : Nat) (x : NI) (z : Int) : Prop where
  len : x.f0.length ≤ c
  C : (Kd.int .u32).C w A x.f0.length x.f0
  ok : NOk x
  val : NV x = z
theorem NumAt.below {w w1 : World} {A : Option Addr} {c : Nat} {x : NI} {z : Int} (h : NumAt w A c x z) (hb : Below w.heap.size w w1) : NumAt w1 A c x z := ⟨h.len, Kd.C_below h.C hb, h.ok, h.val⟩
def numV (A : Option Addr) (c : Nat) (x : NI) : Value := .agg #[.slice A x.f0.length c, .bool x.f1]
def GivesNum (w : World) (z : Int) : Ending → World → Prop := fun e w' => ∃ A c x, e = .returned (numV A c x) ∧ NumAt w' A c x z ∧ Below w.heap.size w w'
/-- A number and whether there is one. -/
def GivesNumOk (w : World) (z : Option Int) : Ending → World → Prop := fun e w' => ∃ A c x, e = .returned (.tuple #[numV A c x, .bool z.isSome]) ∧ NumAt w' A c x (z.getD 0) ∧ Below w.heap.size w w'
theorem NumAt.zero (w : World) : NumAt w none 0 ⟨[], false⟩ 0 := ⟨Nat.le_refl _, ⟨rfl, by simp, fun h => absurd h (Nat.lt_irrefl 0)⟩, ⟨Norm.nil, fun h => by cases h⟩, rfl⟩

theorem own_ne_iter {w : World} {base : Nat} {e : TypeId} {n g : Nat} {v : Value} {xs : List Value} {s : ByteArray} {p : Nat} (h : w.ownsRow base e 1 v n xs) (hg : w.heap[g]? = some (.stringIter s p)) : some g ≠ v.ownBlock := by
  intro he
  obtain ⟨cells, hc⟩ := own_typed h g he.symm
  rw [hc] at hg
  cases hg
theorem own_wrote {w w1 : World} {g base n : Nat} {e : TypeId} {v : Value} {xs : List Value} {s : ByteArray} {p : Nat} (h : w.ownsRow base e 1 v n xs) (hg : w.heap[g]? = some (.stringIter s p)) (hw : Wrote g w w1) : w1.ownsRow base e 1 v n xs :=
  own_move h fun k hk => hw.other k fun e1 => own_ne_iter h hg (by rw [hk, e1])
theorem pow10_le {k : Nat} (h : k ≤ 9) : (10 : Int) ^ k ≤ 1000000000 := by
  have : (10 : Nat) ^ k ≤ 10 ^ 9 := Nat.pow_le_pow_right (by omega) h
  have e : ((10 ^ k : Nat) : Int) = 10 ^ k := by rw [Int.natCast_pow]; rfl
  rw [← e]
  omega
theorem pow10_pos (k : Nat) : (1 : Int) ≤ 10 ^ k := Int.pow_pos (by omega)
/-- A row of the call's own, read. -/
theorem own_C {w : World} {base : Nat} {v : Value} {xs : List Int} (h : w.ownsRow base 102 1 v xs.length (nums .u32 xs)) : ∃ A c, v = .slice A xs.length c ∧ xs.length ≤ c ∧ (Kd.int .u32).C w A xs.length xs :=
  Kd.R_reads (Kd.R_of_own (h1 := fun _ => rfl) (enc := Value.int .u32) (ok := fun _ => True) h (fun _ _ => trivial))
theorem own_C_lit {w : World} {base : Nat} {A : Option Addr} {c : Nat} {xs : List Int} (h : w.ownsRow base 102 1 (.slice A xs.length c) xs.length (nums .u32 xs)) : xs.length ≤ c ∧ (Kd.int .u32).C w A xs.length xs := by
  obtain ⟨A', c', e, hl, hC⟩ := own_C h
  injection e with e1 e2 e3
  subst e1 e3
  exact ⟨hl, hC⟩
def niOf (l : List Int) (neg : Bool) : NI := ⟨trim l, neg && !(trim l).isEmpty⟩
theorem niOf_ok {l : List Int} (h : Digs l) (neg : Bool) : NOk (niOf l neg) := ⟨trim_norm h, fun e => by
  simp only [niOf, Bool.and_eq_true, Bool.not_eq_true'] at e
  intro h0
  rw [show (niOf l neg).f0 = trim l from rfl] at h0
  rw [h0] at e
  simp at e⟩
theorem niOf_val (l : List Int) (neg : Bool) : NV (niOf l neg) = if neg then -(val l) else val l := by
  unfold NV niOf
  simp only [val_trim]
  cases neg with
  | false => rfl
  | true =>
    cases h : trim l with
    | nil => have := val_trim l; rw [h] at this; simp only [val] at this; simp [← this]
    | cons => rfl
theorem niOf_at {w : World} {A : Option Addr} {c : Nat} {l : List Int} (hl : l.length ≤ c) (hC : (Kd.int .u32).C w A l.length l) (hd : Digs l) (neg : Bool) : NumAt w A c (niOf l neg) (if neg then -(val l) else val l) := by
  refine ⟨Nat.le_trans (trim_length_le l) hl, ?_, niOf_ok hd neg, niOf_val l neg⟩
  have h := Kd.C_take hC (m := (trim l).length) (trim_length_le l)
  rw [← trim_prefix] at h
  exact h
def parseS (s : ByteArray) : Option Int := if rightS s then some (numS s) else none


/-- What stands ahead of a digit's round. -/
structure At (R : ByteArray) (p d : Nat) (n : Int) (xs : List Int) : Prop where
  n10 : n < 10 ^ d
  digs : digsTo R p = true
  dx : Digs xs
  val : val xs * 10 ^ d + n = decTo R p
  len : xs.length ≤ p
  fin : p = R.size → d = 0 ∧ n = 0
theorem At.begin (R : ByteArray) (h : R.size ≠ 0) : At R 0 0 0 [] := ⟨by simp, rfl, Digs.nil, by simp [Kit.val, decTo], Nat.le_refl _, fun e => absurd e.symm h⟩
theorem At.next {R : ByteArray} {p d : Nat} {n : Int} {xs : List Int} (h : At R p d n xs) (hd : digitB (bt R p) = true) (hp : p + 1 ≠ R.size) : At R (p + 1) (d + 1) (10 * n + (bt R p - 48)) xs := by
  have hb : 48 ≤ bt R p ∧ bt R p ≤ 57 := by simpa [digitB] using hd
  have := h.n10
  refine ⟨by rw [Int.pow_succ]; omega, by rw [digsTo, h.digs, hd]; rfl, h.dx, ?_, Nat.le_succ_of_le h.len, fun e => absurd e hp⟩
  rw [decTo, ← h.val, Int.pow_succ, Int.mul_add, ← Int.mul_assoc]
  omega
theorem At.flush {R : ByteArray} {p d : Nat} {n : Int} {xs ys : List Int} (h : At R p d n xs) (hd : digitB (bt R p) = true) (hy : Digs ys) (hv : Kit.val ys = Kit.val xs * 10 ^ (d + 1) + (10 * n + (bt R p - 48))) (hl : ys.length ≤ xs.length + 1) : At R (p + 1) 0 0 ys := by
  refine ⟨by simp, by rw [digsTo, h.digs, hd]; rfl, hy, ?_, by have := h.len; omega, fun _ => ⟨rfl, rfl⟩⟩
  rw [decTo, ← h.val, hv, Int.pow_succ, Int.mul_add, ← Int.mul_assoc]
  omega


set_option maxHeartbeats 4000000 in
set_option maxRecDepth 100000 in
theorem parse_pos (s : ByteArray) (w : World) (hs : s.size ≤ 1099511627776) (hp : 0 < s.size) (hneg : negS s = false) (h48 : bt s 0 ≠ 48) :
    Calls Try.prog 18 #[.string s] w (GivesNumOk w (parseS s)) := by
  have hr : restS s = s := by unfold restS; rw [hneg]; rfl
  have hb : bt s 0 = ((s[0]'hp).toNat : Int) := by simp [bt, hp]
  have hn' : (((s[0]'hp).toNat : Int) == 45) = false := by
    have : bt s 0 ≠ 45 := by simpa [negS] using hneg
    rw [← hb]; simpa using this
  have h48' : (((s[0]'hp).toNat : Int) == 48) = false := by rw [← hb]; simpa using h48
  have he : s.toList.isEmpty = false := by rw [toList_empty]; exact decide_eq_false (by omega)
  have he' : ¬ s.toList = [] := by intro h; rw [h] at he; cases he
  have HR := Aside0.mk (show rightS s = digsTo s s.size from by unfold rightS; rw [hr, decide_eq_true (show s.size ≠ 0 by omega), decide_eq_false h48]; rfl)
  have HN := Aside0.mk (show numS s = decTo s s.size from by unfold numS; rw [hr, hneg]; rfl)
  clear hneg h48 hr hb
  go_enter Try.func18, Try.ntmps18
  go_wp2_with (first | ((with_reducible refine gate_dst (N := 2) rfl ?_); refine box_event rfl (N := 2) rfl (cs := #[.slice none 0 0, .bool false]) (t := 75) ?hr ?_; (case hr => first | (go_simp; done) | (go_simp; rfl)); intro g2 hg2 w2 hbox2 hb2; have HG2 := Aside0.mk hg2; have HX2 := Aside0.mk hbox2; clear hg2 hbox2) | ((with_reducible refine gate_dst (N := 41) rfl ?_); refine range_event rfl 9 _ rfl s rfl Try.underlying9 ?_; intro g w3 hk hg hb3; have HK := Aside0.mk hk; have HB3 := Aside0.mk (below_step hb2 hb3); have HX3 := Aside0.mk ((hb3.block _ (blk_lt HX2.out)).trans HX2.out); have HGG := Aside0.mk (show g2 < g from by have := blk_lt HX2.out; omega); clear hk hb3))
  have HSZ := Aside0.mk (show s.size ≠ 0 by omega)
  simp only [Act.put, List.setIfInBounds_toArray, List.set_cons_succ, List.set_cons_zero]
  go_loopg [6, 7, 8] s.size (fun gg v6 v7 v8 wr => ∃ (p d : Nat) (n : Int) (xs : List Int), p ≤ s.size ∧ s.size - p ≤ gg ∧ v8 = .int .i64 d ∧ v7 = .int .u64 n ∧ d ≤ 8 ∧ 0 ≤ n ∧ n < 1000000000 ∧
    Aside0 (At s p d n xs) ∧ Aside0 (wr.ownsRow w.heap.size 102 1 v6 xs.length (nums .u32 xs)) ∧ Aside0 (wr.heap[g2]? = some (.cells #[.slice none 0 0, .bool false] 75 (0, 0))) ∧ Aside0 (wr.heap[g]? = some (.stringIter s p)) ∧ Aside0 (Below w.heap.size w wr))
  case atStart => exact ⟨0, 0, 0, [], Nat.zero_le _, by omega, rfl, rfl, by omega, by omega, by omega, ⟨At.begin s HSZ.out⟩, ⟨own_nil _ _ _ _⟩, HX3, HK, HB3⟩
  case round =>
    obtain ⟨p, d, n, xs, hpp, hgg, rfl, rfl, hd, hn0, hn1, HA, HO, HX, HI, BW⟩ := hrel
    by_cases hlt : p < s.size
    · obtain ⟨r, hr⟩ : ∃ r : Int, r = (Utf8.decode s p).1 := ⟨_, rfl⟩
      have hr1 : 48 ≤ r ∧ r ≤ 57 → r = bt s p ∧ (Utf8.decode s p).2 = 1 := by
        intro h
        by_cases hb : bt s p < 128
        · have := decode_low s p hlt hb
          exact ⟨by omega, this.2⟩
        · have := decode_up s p hlt (by omega)
          omega
      have hr2 : ¬ (48 ≤ r ∧ r ≤ 57) → digitB (bt s p) = false := by
        intro h
        by_cases hb : bt s p < 128
        · have := (decode_low s p hlt hb).1
          unfold digitB; simp; omega
        · unfold digitB; simp; omega
      have HR1 := Aside0.mk hr1
      have HR2 := Aside0.mk hr2
      have Hs := Aside0.mk hr
      clear hr1 hr2 hr
      by_cases hdig : 48 ≤ r ∧ r ≤ 57
      · obtain ⟨q0, q1⟩ := hdig
        have q0' : decide (r < 48) = false := decide_eq_false (by omega)
        have q1' : decide (57 < r) = false := decide_eq_false (by omega)
        have HD := Aside0.mk (show digitB (bt s p) = true from by have := (HR1.out ⟨q0, q1⟩).1; unfold digitB; simp; omega)
        by_cases hlast : d = 8 ∨ p + 1 = s.size
        · have hfl : (((d : Int) + 1 == 9) = true) ∨ (((d : Int) + 1 == 9) = false ∧ ((p : Int) == (s.size : Int) - 1) = true) := by
            by_cases h8 : d = 8
            · exact .inl (by rw [h8]; rfl)
            · exact .inr ⟨by simp; omega, by simp; omega⟩
          clear hlast
          rcases hfl with hfl | ⟨hfl, hfl2⟩
          all_goals
            go_wp2_with ((with_reducible refine gate_dst (N := 42) rfl ?_); refine next_event rfl _ rfl g rfl s p HI.out hlt ?_; rw [← Hs.out]; intro w1 hk1 hm1; have HK1 := Aside0.mk hk1; have HM1 := Aside0.mk hm1; clear hk1 hm1)
            have HO1 := Aside0.mk (own_wrote HO.out HI.out HM1.out)
            have HX1 := Aside0.mk (HM1.out.blk HX.out (by have := HGG.out; omega))
            have BW1 := Aside0.mk (HM1.out.below _ _ (by have := HGG.out; have := HG2.out; omega) BW.out)
            go_loopg [11, 71] (d + 1) (fun gg v11 v71 wr2 => ∃ (k : Nat) (t : Int), k ≤ d + 1 ∧ d + 1 - k ≤ gg ∧ v71 = .int .i64 k ∧ v11 = .int .u64 t ∧ 1 ≤ t ∧ t ≤ 1000000000 ∧ Aside0 (t = 10 ^ k) ∧ Aside0 (wr2 = w1))
            case atStart => exact ⟨0, 1, by omega, by omega, rfl, rfl, by omega, by omega, ⟨by simp⟩, ⟨rfl⟩⟩
            case round =>
              obtain ⟨k, t, hk, hkg, rfl, rfl, ht0, ht1, HT, HWW⟩ := hrel
              obtain rfl := HWW.out
              by_cases hkl : k < d + 1
              · have ht9 : t ≤ 100000000 := by
                  have h1 : (10 : Int) ^ (k + 1) ≤ 1000000000 := pow10_le (by omega)
                  rw [HT.out]
                  rw [Int.pow_succ] at h1
                  omega
                go_wp2
                go_roundg (d + 1 - (k + 1))
                case measure => omega
                case rel => exact ⟨k + 1, t * 10, by omega, by omega, by go_num, rfl, by omega, by omega, ⟨by rw [Int.pow_succ, HT.out]⟩, ⟨rfl⟩⟩
              · have hke : k = d + 1 := by omega
                have HKE := Aside0.mk hke
                clear hke
                go_wp2_with fail
                refine (grown_calls w.heap.size w wr u6 xs t (10 * n + (r - 48)) HO1.out BW1.out BW1.out.size HA.out.dx (by have := HA.out.len; omega) (by omega) ht1 (by omega) (by have h1 := HA.out.n10; have h2 : (10 : Int) ^ (d + 1) ≤ 1000000000 := pow10_le (by omega); rw [Int.pow_succ] at h2; omega)).mono ?_
                rintro e w' ⟨v1, ys, rfl, ho, ⟨hy1, hy2, hy3⟩, hb, hgr, hat⟩
                have HO2 := Aside0.mk ho
                have HY1 := Aside0.mk hy1
                have HY2 := Aside0.mk hy2
                have HY3 := Aside0.mk hy3
                have HB2 := Aside0.mk hb
                have HGR := Aside0.mk hgr
                clear ho hy1 hy2 hy3 hb hgr hat
                go_wp2
                go_roundg (s.size - (p + 1))
                case measure => omega
                case rel =>
                  obtain ⟨hrb, hw1⟩ := HR1.out ⟨q0, q1⟩
                  refine ⟨p + 1, 0, 0, ys, by omega, by omega, rfl, rfl, by omega, by omega, by omega, ⟨HA.out.flush HD.out HY1.out (by rw [HY2.out, HT.out, HKE.out, hrb]) HY3.out⟩, HO2, ⟨blk_grown HX1.out HGR.out (own_ne HO1.out HX1.out (by decide))⟩, ⟨?_⟩, HB2⟩
                  rw [← hw1]
                  exact blk_grown HK1.out HGR.out (own_ne_iter HO1.out HK1.out)
        · have hd8 : d < 8 := by omega
          have hp1 : p + 1 ≠ s.size := by omega
          have hf1 : ((d : Int) + 1 == 9) = false := by simp; omega
          have hf2 : ((p : Int) == (s.size : Int) - 1) = false := by simp; omega
          have HP1 := Aside0.mk hp1
          clear hlast hp1
          go_wp2_with ((with_reducible refine gate_dst (N := 42) rfl ?_); refine next_event rfl _ rfl g rfl s p HI.out hlt ?_; rw [← Hs.out]; intro w1 hk1 hm1; have HK1 := Aside0.mk hk1; have HM1 := Aside0.mk hm1; clear hk1 hm1)
          go_roundg (s.size - (p + 1))
          case measure => omega
          case rel =>
            obtain ⟨hrb, hw1⟩ := HR1.out ⟨q0, q1⟩
            have hnx := HA.out.next HD.out HP1.out
            rw [← hrb] at hnx
            refine ⟨p + 1, d + 1, 10 * n + (r - 48), xs, by omega, by omega, by go_num, rfl, by omega, by omega, ?_, ⟨hnx⟩, ⟨own_wrote HO.out HI.out HM1.out⟩, ⟨HM1.out.blk HX.out (by have := HGG.out; omega)⟩, ⟨by rw [← hw1]; exact HK1.out⟩, ⟨HM1.out.below _ _ (by have := HGG.out; have := HG2.out; omega) BW.out⟩⟩
            have h1 := hnx.n10
            have h2 : (10 : Int) ^ (d + 1) ≤ 1000000000 := pow10_le (by omega)
            omega
      · have hF := digsTo_false s p s.size hlt (HR2.out hdig)
        have HF := Aside0.mk (show parseS s = none from by unfold parseS; rw [HR.out, hF]; rfl)
        clear hF
        rcases (by omega : r < 48 ∨ 57 < r) with q0 | q0
        · have q0' : decide (r < 48) = true := decide_eq_true q0
          go_wp2_with (first | ((with_reducible refine gate_dst (N := 42) rfl ?_); refine next_event rfl _ rfl g rfl s p HI.out hlt ?_; rw [← Hs.out]; intro w1 hk1 hm1; have HX1 := Aside0.mk (hm1.blk HX.out (by have := HGG.out; omega)); have BW1 := Aside0.mk (hm1.below _ _ (by have := HGG.out; have := HG2.out; omega) BW.out); clear hk1 hm1) | ((with_reducible refine gate_store (p := 2) rfl ?_); refine store_row_event rfl rfl 75 _ _ rfl g2 #[.slice none 0 0, .bool false] rfl rfl 75 _ HX1.out size_NI rfl rfl ?_; intro w5 hx5 hw5; have HX5 := Aside0.mk hx5; have HW5 := Aside0.mk hw5; clear hx5 hw5))
          refine bodyPost_ret (results_cell_tmp_row rfl _ _ g2 75 _ (0, 0) _ rfl HX5.out Try.underlying75 rfl size_NI) rfl ?_
          exact ⟨none, 0, ⟨[], false⟩, by rw [HF.out]; rfl, by rw [HF.out]; exact NumAt.zero _, HW5.out.below _ _ (by have := HG2.out; omega) BW1.out⟩
        · have q0' : decide (r < 48) = false := decide_eq_false (by omega)
          go_wp2_with (first | ((with_reducible refine gate_dst (N := 42) rfl ?_); refine next_event rfl _ rfl g rfl s p HI.out hlt ?_; rw [← Hs.out]; intro w1 hk1 hm1; have HX1 := Aside0.mk (hm1.blk HX.out (by have := HGG.out; omega)); have BW1 := Aside0.mk (hm1.below _ _ (by have := HGG.out; have := HG2.out; omega) BW.out); clear hk1 hm1) | ((with_reducible refine gate_store (p := 2) rfl ?_); refine store_row_event rfl rfl 75 _ _ rfl g2 #[.slice none 0 0, .bool false] rfl rfl 75 _ HX1.out size_NI rfl rfl ?_; intro w5 hx5 hw5; have HX5 := Aside0.mk hx5; have HW5 := Aside0.mk hw5; clear hx5 hw5))
          refine bodyPost_ret (results_cell_tmp_row rfl _ _ g2 75 _ (0, 0) _ rfl HX5.out Try.underlying75 rfl size_NI) rfl ?_
          exact ⟨none, 0, ⟨[], false⟩, by rw [HF.out]; rfl, by rw [HF.out]; exact NumAt.zero _, HW5.out.below _ _ (by have := HG2.out; omega) BW1.out⟩
    · have hpe : p = s.size := by omega
      have HPE := Aside0.mk hpe
      have HF := Aside0.mk (show parseS s = some (if false then -(val xs) else val xs) from by
        have h1 := HA.out.fin hpe
        have h2 := HA.out.val
        have h3 := HA.out.digs
        rw [h1.1, h1.2, hpe] at h2
        rw [hpe] at h3
        unfold parseS
        rw [HR.out, h3, HN.out, ← h2]
        simp)
      have hge : ¬ p < s.size := hlt
      obtain ⟨A, c, e1, hl1, hC1⟩ := own_C HO.out
      subst e1
      have HL1 := Aside0.mk hl1
      have HC1 := Aside0.mk hC1
      clear hpe hl1 hC1
      go_wp2_with ((with_reducible refine gate_dst (N := 42) rfl ?_); refine next_end rfl _ rfl g rfl s p HI.out hge ?_)
      refine (made_calls xs A c false wr HC1.out HL1.out).mono ?_
      rintro e w' ⟨rfl, hb'⟩
      have HX1 := Aside0.mk ((hb'.block _ (blk_lt HX.out)).trans HX.out)
      have BW1 := Aside0.mk (below_step BW.out hb')
      have HNA := Aside0.mk (niOf_at HL1.out (Kd.C_below HC1.out hb') HA.out.dx false)
      have HBB := Aside0.mk hb'
      clear hb'
      go_wp2_with ((with_reducible refine gate_store (p := 2) rfl ?_); refine store_row_event rfl rfl 75 _ _ rfl g2 #[.slice A (trim xs).length c, .bool (false && !(trim xs).isEmpty)] rfl rfl 75 _ HX1.out size_NI rfl rfl ?_; intro w5 hx5 hw5; have HX5 := Aside0.mk hx5; have HW5 := Aside0.mk hw5; clear hx5 hw5)
      refine bodyPost_ret (results_cell_tmp_row rfl _ _ g2 75 _ (0, 0) _ rfl HX5.out Try.underlying75 rfl size_NI) rfl ?_
      have ho5 := own_move (pw_own_below HO.out HBB.out) (fun k hk => HW5.out.other k (fun e1 => own_ne (pw_own_below HO.out HBB.out) HX1.out (by decide) (by rw [hk, e1])))
      obtain ⟨hl5, hC5⟩ := own_C_lit ho5
      exact ⟨A, c, niOf xs false, by rw [HF.out]; rfl, by rw [HF.out]; exact niOf_at hl5 hC5 HA.out.dx false, HW5.out.below _ _ (by have := HG2.out; omega) BW1.out⟩
set_option maxHeartbeats 4000000 in
set_option maxRecDepth 100000 in
theorem parse_zero (s : ByteArray) (w : World) (hs : s.size ≤ 1099511627776) (hp : 0 < s.size) (hneg : negS s = false) (h48 : bt s 0 = 48) (h1 : s.size = 1) :
    Calls Try.prog 18 #[.string s] w (GivesNumOk w (parseS s)) := by
  have hr : restS s = s := by unfold restS; rw [hneg]; rfl
  have hb : bt s 0 = ((s[0]'hp).toNat : Int) := by simp [bt, hp]
  have hn' : (((s[0]'hp).toNat : Int) == 45) = false := by
    have : bt s 0 ≠ 45 := by simpa [negS] using hneg
    rw [← hb]; simpa using this
  have h48' : (((s[0]'hp).toNat : Int) == 48) = true := by rw [← hb]; simpa using h48
  have hs1 : decide ((1 : Int) < (s.size : Int)) = false := decide_eq_false (by omega)
  have hs1' : decide (1 < s.size) = false := decide_eq_false (by omega)
  have he : s.toList.isEmpty = false := by rw [toList_empty]; exact decide_eq_false (by omega)
  have he' : ¬ s.toList = [] := by intro h; rw [h] at he; cases he
  have HR := Aside0.mk (show rightS s = digsTo s s.size from by unfold rightS; rw [hr, decide_eq_true (show s.size ≠ 0 by omega), decide_eq_true h48, hs1', hneg]; rfl)
  have HN := Aside0.mk (show numS s = decTo s s.size from by unfold numS; rw [hr, hneg]; rfl)
  clear hneg h48 hr hb h1
  go_enter Try.func18, Try.ntmps18
  go_wp2_with (first | ((with_reducible refine gate_dst (N := 2) rfl ?_); refine box_event rfl (N := 2) rfl (cs := #[.slice none 0 0, .bool false]) (t := 75) ?hr ?_; (case hr => first | (go_simp; done) | (go_simp; rfl)); intro g2 hg2 w2 hbox2 hb2; have HG2 := Aside0.mk hg2; have HX2 := Aside0.mk hbox2; clear hg2 hbox2) | ((with_reducible refine gate_dst (N := 41) rfl ?_); refine range_event rfl 9 _ rfl s rfl Try.underlying9 ?_; intro g w3 hk hg hb3; have HK := Aside0.mk hk; have HB3 := Aside0.mk (below_step hb2 hb3); have HX3 := Aside0.mk ((hb3.block _ (blk_lt HX2.out)).trans HX2.out); have HGG := Aside0.mk (show g2 < g from by have := blk_lt HX2.out; omega); clear hk hb3))
  have HSZ := Aside0.mk (show s.size ≠ 0 by omega)
  simp only [Act.put, List.setIfInBounds_toArray, List.set_cons_succ, List.set_cons_zero]
  go_loopg [6, 7, 8] s.size (fun gg v6 v7 v8 wr => ∃ (p d : Nat) (n : Int) (xs : List Int), p ≤ s.size ∧ s.size - p ≤ gg ∧ v8 = .int .i64 d ∧ v7 = .int .u64 n ∧ d ≤ 8 ∧ 0 ≤ n ∧ n < 1000000000 ∧
    Aside0 (At s p d n xs) ∧ Aside0 (wr.ownsRow w.heap.size 102 1 v6 xs.length (nums .u32 xs)) ∧ Aside0 (wr.heap[g2]? = some (.cells #[.slice none 0 0, .bool false] 75 (0, 0))) ∧ Aside0 (wr.heap[g]? = some (.stringIter s p)) ∧ Aside0 (Below w.heap.size w wr))
  case atStart => exact ⟨0, 0, 0, [], Nat.zero_le _, by omega, rfl, rfl, by omega, by omega, by omega, ⟨At.begin s HSZ.out⟩, ⟨own_nil _ _ _ _⟩, HX3, HK, HB3⟩
  case round =>
    obtain ⟨p, d, n, xs, hpp, hgg, rfl, rfl, hd, hn0, hn1, HA, HO, HX, HI, BW⟩ := hrel
    by_cases hlt : p < s.size
    · obtain ⟨r, hr⟩ : ∃ r : Int, r = (Utf8.decode s p).1 := ⟨_, rfl⟩
      have hr1 : 48 ≤ r ∧ r ≤ 57 → r = bt s p ∧ (Utf8.decode s p).2 = 1 := by
        intro h
        by_cases hb : bt s p < 128
        · have := decode_low s p hlt hb
          exact ⟨by omega, this.2⟩
        · have := decode_up s p hlt (by omega)
          omega
      have hr2 : ¬ (48 ≤ r ∧ r ≤ 57) → digitB (bt s p) = false := by
        intro h
        by_cases hb : bt s p < 128
        · have := (decode_low s p hlt hb).1
          unfold digitB; simp; omega
        · unfold digitB; simp; omega
      have HR1 := Aside0.mk hr1
      have HR2 := Aside0.mk hr2
      have Hs := Aside0.mk hr
      clear hr1 hr2 hr
      by_cases hdig : 48 ≤ r ∧ r ≤ 57
      · obtain ⟨q0, q1⟩ := hdig
        have q0' : decide (r < 48) = false := decide_eq_false (by omega)
        have q1' : decide (57 < r) = false := decide_eq_false (by omega)
        have HD := Aside0.mk (show digitB (bt s p) = true from by have := (HR1.out ⟨q0, q1⟩).1; unfold digitB; simp; omega)
        by_cases hlast : d = 8 ∨ p + 1 = s.size
        · have hfl : (((d : Int) + 1 == 9) = true) ∨ (((d : Int) + 1 == 9) = false ∧ ((p : Int) == (s.size : Int) - 1) = true) := by
            by_cases h8 : d = 8
            · exact .inl (by rw [h8]; rfl)
            · exact .inr ⟨by simp; omega, by simp; omega⟩
          clear hlast
          rcases hfl with hfl | ⟨hfl, hfl2⟩
          all_goals
            go_wp2_with ((with_reducible refine gate_dst (N := 42) rfl ?_); refine next_event rfl _ rfl g rfl s p HI.out hlt ?_; rw [← Hs.out]; intro w1 hk1 hm1; have HK1 := Aside0.mk hk1; have HM1 := Aside0.mk hm1; clear hk1 hm1)
            have HO1 := Aside0.mk (own_wrote HO.out HI.out HM1.out)
            have HX1 := Aside0.mk (HM1.out.blk HX.out (by have := HGG.out; omega))
            have BW1 := Aside0.mk (HM1.out.below _ _ (by have := HGG.out; have := HG2.out; omega) BW.out)
            go_loopg [11, 71] (d + 1) (fun gg v11 v71 wr2 => ∃ (k : Nat) (t : Int), k ≤ d + 1 ∧ d + 1 - k ≤ gg ∧ v71 = .int .i64 k ∧ v11 = .int .u64 t ∧ 1 ≤ t ∧ t ≤ 1000000000 ∧ Aside0 (t = 10 ^ k) ∧ Aside0 (wr2 = w1))
            case atStart => exact ⟨0, 1, by omega, by omega, rfl, rfl, by omega, by omega, ⟨by simp⟩, ⟨rfl⟩⟩
            case round =>
              obtain ⟨k, t, hk, hkg, rfl, rfl, ht0, ht1, HT, HWW⟩ := hrel
              obtain rfl := HWW.out
              by_cases hkl : k < d + 1
              · have ht9 : t ≤ 100000000 := by
                  have h1 : (10 : Int) ^ (k + 1) ≤ 1000000000 := pow10_le (by omega)
                  rw [HT.out]
                  rw [Int.pow_succ] at h1
                  omega
                go_wp2
                go_roundg (d + 1 - (k + 1))
                case measure => omega
                case rel => exact ⟨k + 1, t * 10, by omega, by omega, by go_num, rfl, by omega, by omega, ⟨by rw [Int.pow_succ, HT.out]⟩, ⟨rfl⟩⟩
              · have hke : k = d + 1 := by omega
                have HKE := Aside0.mk hke
                clear hke
                go_wp2_with fail
                refine (grown_calls w.heap.size w wr u6 xs t (10 * n + (r - 48)) HO1.out BW1.out BW1.out.size HA.out.dx (by have := HA.out.len; omega) (by omega) ht1 (by omega) (by have h1 := HA.out.n10; have h2 : (10 : Int) ^ (d + 1) ≤ 1000000000 := pow10_le (by omega); rw [Int.pow_succ] at h2; omega)).mono ?_
                rintro e w' ⟨v1, ys, rfl, ho, ⟨hy1, hy2, hy3⟩, hb, hgr, hat⟩
                have HO2 := Aside0.mk ho
                have HY1 := Aside0.mk hy1
                have HY2 := Aside0.mk hy2
                have HY3 := Aside0.mk hy3
                have HB2 := Aside0.mk hb
                have HGR := Aside0.mk hgr
                clear ho hy1 hy2 hy3 hb hgr hat
                go_wp2
                go_roundg (s.size - (p + 1))
                case measure => omega
                case rel =>
                  obtain ⟨hrb, hw1⟩ := HR1.out ⟨q0, q1⟩
                  refine ⟨p + 1, 0, 0, ys, by omega, by omega, rfl, rfl, by omega, by omega, by omega, ⟨HA.out.flush HD.out HY1.out (by rw [HY2.out, HT.out, HKE.out, hrb]) HY3.out⟩, HO2, ⟨blk_grown HX1.out HGR.out (own_ne HO1.out HX1.out (by decide))⟩, ⟨?_⟩, HB2⟩
                  rw [← hw1]
                  exact blk_grown HK1.out HGR.out (own_ne_iter HO1.out HK1.out)
        · have hd8 : d < 8 := by omega
          have hp1 : p + 1 ≠ s.size := by omega
          have hf1 : ((d : Int) + 1 == 9) = false := by simp; omega
          have hf2 : ((p : Int) == (s.size : Int) - 1) = false := by simp; omega
          have HP1 := Aside0.mk hp1
          clear hlast hp1
          go_wp2_with ((with_reducible refine gate_dst (N := 42) rfl ?_); refine next_event rfl _ rfl g rfl s p HI.out hlt ?_; rw [← Hs.out]; intro w1 hk1 hm1; have HK1 := Aside0.mk hk1; have HM1 := Aside0.mk hm1; clear hk1 hm1)
          go_roundg (s.size - (p + 1))
          case measure => omega
          case rel =>
            obtain ⟨hrb, hw1⟩ := HR1.out ⟨q0, q1⟩
            have hnx := HA.out.next HD.out HP1.out
            rw [← hrb] at hnx
            refine ⟨p + 1, d + 1, 10 * n + (r - 48), xs, by omega, by omega, by go_num, rfl, by omega, by omega, ?_, ⟨hnx⟩, ⟨own_wrote HO.out HI.out HM1.out⟩, ⟨HM1.out.blk HX.out (by have := HGG.out; omega)⟩, ⟨by rw [← hw1]; exact HK1.out⟩, ⟨HM1.out.below _ _ (by have := HGG.out; have := HG2.out; omega) BW.out⟩⟩
            have h1 := hnx.n10
            have h2 : (10 : Int) ^ (d + 1) ≤ 1000000000 := pow10_le (by omega)
            omega
      · have hF := digsTo_false s p s.size hlt (HR2.out hdig)
        have HF := Aside0.mk (show parseS s = none from by unfold parseS; rw [HR.out, hF]; rfl)
        clear hF
        rcases (by omega : r < 48 ∨ 57 < r) with q0 | q0
        · have q0' : decide (r < 48) = true := decide_eq_true q0
          go_wp2_with (first | ((with_reducible refine gate_dst (N := 42) rfl ?_); refine next_event rfl _ rfl g rfl s p HI.out hlt ?_; rw [← Hs.out]; intro w1 hk1 hm1; have HX1 := Aside0.mk (hm1.blk HX.out (by have := HGG.out; omega)); have BW1 := Aside0.mk (hm1.below _ _ (by have := HGG.out; have := HG2.out; omega) BW.out); clear hk1 hm1) | ((with_reducible refine gate_store (p := 2) rfl ?_); refine store_row_event rfl rfl 75 _ _ rfl g2 #[.slice none 0 0, .bool false] rfl rfl 75 _ HX1.out size_NI rfl rfl ?_; intro w5 hx5 hw5; have HX5 := Aside0.mk hx5; have HW5 := Aside0.mk hw5; clear hx5 hw5))
          refine bodyPost_ret (results_cell_tmp_row rfl _ _ g2 75 _ (0, 0) _ rfl HX5.out Try.underlying75 rfl size_NI) rfl ?_
          exact ⟨none, 0, ⟨[], false⟩, by rw [HF.out]; rfl, by rw [HF.out]; exact NumAt.zero _, HW5.out.below _ _ (by have := HG2.out; omega) BW1.out⟩
        · have q0' : decide (r < 48) = false := decide_eq_false (by omega)
          go_wp2_with (first | ((with_reducible refine gate_dst (N := 42) rfl ?_); refine next_event rfl _ rfl g rfl s p HI.out hlt ?_; rw [← Hs.out]; intro w1 hk1 hm1; have HX1 := Aside0.mk (hm1.blk HX.out (by have := HGG.out; omega)); have BW1 := Aside0.mk (hm1.below _ _ (by have := HGG.out; have := HG2.out; omega) BW.out); clear hk1 hm1) | ((with_reducible refine gate_store (p := 2) rfl ?_); refine store_row_event rfl rfl 75 _ _ rfl g2 #[.slice none 0 0, .bool false] rfl rfl 75 _ HX1.out size_NI rfl rfl ?_; intro w5 hx5 hw5; have HX5 := Aside0.mk hx5; have HW5 := Aside0.mk hw5; clear hx5 hw5))
          refine bodyPost_ret (results_cell_tmp_row rfl _ _ g2 75 _ (0, 0) _ rfl HX5.out Try.underlying75 rfl size_NI) rfl ?_
          exact ⟨none, 0, ⟨[], false⟩, by rw [HF.out]; rfl, by rw [HF.out]; exact NumAt.zero _, HW5.out.below _ _ (by have := HG2.out; omega) BW1.out⟩
    · have hpe : p = s.size := by omega
      have HPE := Aside0.mk hpe
      have HF := Aside0.mk (show parseS s = some (if false then -(val xs) else val xs) from by
        have h1 := HA.out.fin hpe
        have h2 := HA.out.val
        have h3 := HA.out.digs
        rw [h1.1, h1.2, hpe] at h2
        rw [hpe] at h3
        unfold parseS
        rw [HR.out, h3, HN.out, ← h2]
        simp)
      have hge : ¬ p < s.size := hlt
      obtain ⟨A, c, e1, hl1, hC1⟩ := own_C HO.out
      subst e1
      have HL1 := Aside0.mk hl1
      have HC1 := Aside0.mk hC1
      clear hpe hl1 hC1
      go_wp2_with ((with_reducible refine gate_dst (N := 42) rfl ?_); refine next_end rfl _ rfl g rfl s p HI.out hge ?_)
      refine (made_calls xs A c false wr HC1.out HL1.out).mono ?_
      rintro e w' ⟨rfl, hb'⟩
      have HX1 := Aside0.mk ((hb'.block _ (blk_lt HX.out)).trans HX.out)
      have BW1 := Aside0.mk (below_step BW.out hb')
      have HNA := Aside0.mk (niOf_at HL1.out (Kd.C_below HC1.out hb') HA.out.dx false)
      have HBB := Aside0.mk hb'
      clear hb'
      go_wp2_with ((with_reducible refine gate_store (p := 2) rfl ?_); refine store_row_event rfl rfl 75 _ _ rfl g2 #[.slice A (trim xs).length c, .bool (false && !(trim xs).isEmpty)] rfl rfl 75 _ HX1.out size_NI rfl rfl ?_; intro w5 hx5 hw5; have HX5 := Aside0.mk hx5; have HW5 := Aside0.mk hw5; clear hx5 hw5)
      refine bodyPost_ret (results_cell_tmp_row rfl _ _ g2 75 _ (0, 0) _ rfl HX5.out Try.underlying75 rfl size_NI) rfl ?_
      have ho5 := own_move (pw_own_below HO.out HBB.out) (fun k hk => HW5.out.other k (fun e1 => own_ne (pw_own_below HO.out HBB.out) HX1.out (by decide) (by rw [hk, e1])))
      obtain ⟨hl5, hC5⟩ := own_C_lit ho5
      exact ⟨A, c, niOf xs false, by rw [HF.out]; rfl, by rw [HF.out]; exact niOf_at hl5 hC5 HA.out.dx false, HW5.out.below _ _ (by have := HG2.out; omega) BW1.out⟩
set_option maxHeartbeats 4000000 in
set_option maxRecDepth 100000 in
theorem parse_neg (s : ByteArray) (w : World) (hs : s.size ≤ 1099511627776) (hp : 0 < s.size) (hneg : negS s = true) (hp2 : 0 < (s.extract 1 s.size).size) (h48 : bt (s.extract 1 s.size) 0 ≠ 48) :
    Calls Try.prog 18 #[.string s] w (GivesNumOk w (parseS s)) := by
  have hr : restS s = s.extract 1 s.size := by unfold restS; rw [hneg]; rfl
  have hsz : (s.extract 1 s.size).size = s.size - 1 := by simp
  obtain ⟨r, hrr⟩ : ∃ r, r = s.extract 1 s.size := ⟨_, rfl⟩
  rw [← hrr] at hr hsz hp2 h48
  have hb : bt s 0 = ((s[0]'hp).toNat : Int) := by simp [bt, hp]
  have hb2 : bt r 0 = ((r[0]'hp2).toNat : Int) := by simp [bt, hp2]
  have hn' : (((s[0]'hp).toNat : Int) == 45) = true := by
    have : bt s 0 = 45 := by simpa [negS] using hneg
    rw [← hb]; simpa using this
  have h48' : (((r[0]'hp2).toNat : Int) == 48) = false := by rw [← hb2]; simpa using h48
  have he : r.toList.isEmpty = false := by rw [toList_empty]; exact decide_eq_false (by omega)
  have he' : ¬ r.toList = [] := by intro h; rw [h] at he; cases he
  have hrs : r.size ≤ 1099511627776 := by omega
  have hrx := hrr.symm
  have HR := Aside0.mk (show rightS s = digsTo r r.size from by unfold rightS; rw [hr, decide_eq_true (show r.size ≠ 0 by omega), decide_eq_false h48]; rfl)
  have HN := Aside0.mk (show numS s = -(decTo r r.size) from by unfold numS; rw [hr, hneg]; rfl)
  clear hsz hrr hb2
  clear hneg h48 hr hb
  go_enter Try.func18, Try.ntmps18
  go_wp2_with (first | ((with_reducible refine gate_dst (N := 2) rfl ?_); refine box_event rfl (N := 2) rfl (cs := #[.slice none 0 0, .bool false]) (t := 75) ?hr ?_; (case hr => first | (go_simp; done) | (go_simp; rfl)); intro g2 hg2 w2 hbox2 hb2; have HG2 := Aside0.mk hg2; have HX2 := Aside0.mk hbox2; clear hg2 hbox2) | ((with_reducible refine gate_dst (N := 41) rfl ?_); refine range_event rfl 9 _ rfl r rfl Try.underlying9 ?_; intro g w3 hk hg hb3; have HK := Aside0.mk hk; have HB3 := Aside0.mk (below_step hb2 hb3); have HX3 := Aside0.mk ((hb3.block _ (blk_lt HX2.out)).trans HX2.out); have HGG := Aside0.mk (show g2 < g from by have := blk_lt HX2.out; omega); clear hk hb3))
  have HSZ := Aside0.mk (show r.size ≠ 0 by omega)
  simp only [Act.put, List.setIfInBounds_toArray, List.set_cons_succ, List.set_cons_zero]
  go_loopg [6, 7, 8] r.size (fun gg v6 v7 v8 wr => ∃ (p d : Nat) (n : Int) (xs : List Int), p ≤ r.size ∧ r.size - p ≤ gg ∧ v8 = .int .i64 d ∧ v7 = .int .u64 n ∧ d ≤ 8 ∧ 0 ≤ n ∧ n < 1000000000 ∧
    Aside0 (At r p d n xs) ∧ Aside0 (wr.ownsRow w.heap.size 102 1 v6 xs.length (nums .u32 xs)) ∧ Aside0 (wr.heap[g2]? = some (.cells #[.slice none 0 0, .bool false] 75 (0, 0))) ∧ Aside0 (wr.heap[g]? = some (.stringIter r p)) ∧ Aside0 (Below w.heap.size w wr))
  case atStart => exact ⟨0, 0, 0, [], Nat.zero_le _, by omega, rfl, rfl, by omega, by omega, by omega, ⟨At.begin r HSZ.out⟩, ⟨own_nil _ _ _ _⟩, HX3, HK, HB3⟩
  case round =>
    obtain ⟨p, d, n, xs, hpp, hgg, rfl, rfl, hd, hn0, hn1, HA, HO, HX, HI, BW⟩ := hrel
    by_cases hlt : p < r.size
    · obtain ⟨q, hr⟩ : ∃ q : Int, q = (Utf8.decode r p).1 := ⟨_, rfl⟩
      have hr1 : 48 ≤ q ∧ q ≤ 57 → q = bt r p ∧ (Utf8.decode r p).2 = 1 := by
        intro h
        by_cases hb : bt r p < 128
        · have := decode_low r p hlt hb
          exact ⟨by omega, this.2⟩
        · have := decode_up r p hlt (by omega)
          omega
      have hr2 : ¬ (48 ≤ q ∧ q ≤ 57) → digitB (bt r p) = false := by
        intro h
        by_cases hb : bt r p < 128
        · have := (decode_low r p hlt hb).1
          unfold digitB; simp; omega
        · unfold digitB; simp; omega
      have HR1 := Aside0.mk hr1
      have HR2 := Aside0.mk hr2
      have Hs := Aside0.mk hr
      clear hr1 hr2 hr
      by_cases hdig : 48 ≤ q ∧ q ≤ 57
      · obtain ⟨q0, q1⟩ := hdig
        have q0' : decide (q < 48) = false := decide_eq_false (by omega)
        have q1' : decide (57 < q) = false := decide_eq_false (by omega)
        have HD := Aside0.mk (show digitB (bt r p) = true from by have := (HR1.out ⟨q0, q1⟩).1; unfold digitB; simp; omega)
        by_cases hlast : d = 8 ∨ p + 1 = r.size
        · have hfl : (((d : Int) + 1 == 9) = true) ∨ (((d : Int) + 1 == 9) = false ∧ ((p : Int) == (r.size : Int) - 1) = true) := by
            by_cases h8 : d = 8
            · exact .inl (by rw [h8]; rfl)
            · exact .inr ⟨by simp; omega, by simp; omega⟩
          clear hlast
          rcases hfl with hfl | ⟨hfl, hfl2⟩
          all_goals
            go_wp2_with ((with_reducible refine gate_dst (N := 42) rfl ?_); refine next_event rfl _ rfl g rfl r p HI.out hlt ?_; rw [← Hs.out]; intro w1 hk1 hm1; have HK1 := Aside0.mk hk1; have HM1 := Aside0.mk hm1; clear hk1 hm1)
            have HO1 := Aside0.mk (own_wrote HO.out HI.out HM1.out)
            have HX1 := Aside0.mk (HM1.out.blk HX.out (by have := HGG.out; omega))
            have BW1 := Aside0.mk (HM1.out.below _ _ (by have := HGG.out; have := HG2.out; omega) BW.out)
            go_loopg [11, 71] (d + 1) (fun gg v11 v71 wr2 => ∃ (k : Nat) (t : Int), k ≤ d + 1 ∧ d + 1 - k ≤ gg ∧ v71 = .int .i64 k ∧ v11 = .int .u64 t ∧ 1 ≤ t ∧ t ≤ 1000000000 ∧ Aside0 (t = 10 ^ k) ∧ Aside0 (wr2 = w1))
            case atStart => exact ⟨0, 1, by omega, by omega, rfl, rfl, by omega, by omega, ⟨by simp⟩, ⟨rfl⟩⟩
            case round =>
              obtain ⟨k, t, hk, hkg, rfl, rfl, ht0, ht1, HT, HWW⟩ := hrel
              obtain rfl := HWW.out
              by_cases hkl : k < d + 1
              · have ht9 : t ≤ 100000000 := by
                  have h1 : (10 : Int) ^ (k + 1) ≤ 1000000000 := pow10_le (by omega)
                  rw [HT.out]
                  rw [Int.pow_succ] at h1
                  omega
                go_wp2
                go_roundg (d + 1 - (k + 1))
                case measure => omega
                case rel => exact ⟨k + 1, t * 10, by omega, by omega, by go_num, rfl, by omega, by omega, ⟨by rw [Int.pow_succ, HT.out]⟩, ⟨rfl⟩⟩
              · have hke : k = d + 1 := by omega
                have HKE := Aside0.mk hke
                clear hke
                go_wp2_with fail
                refine (grown_calls w.heap.size w wr u6 xs t (10 * n + (q - 48)) HO1.out BW1.out BW1.out.size HA.out.dx (by have := HA.out.len; omega) (by omega) ht1 (by omega) (by have h1 := HA.out.n10; have h2 : (10 : Int) ^ (d + 1) ≤ 1000000000 := pow10_le (by omega); rw [Int.pow_succ] at h2; omega)).mono ?_
                rintro e w' ⟨v1, ys, rfl, ho, ⟨hy1, hy2, hy3⟩, hb, hgr, hat⟩
                have HO2 := Aside0.mk ho
                have HY1 := Aside0.mk hy1
                have HY2 := Aside0.mk hy2
                have HY3 := Aside0.mk hy3
                have HB2 := Aside0.mk hb
                have HGR := Aside0.mk hgr
                clear ho hy1 hy2 hy3 hb hgr hat
                go_wp2
                go_roundg (r.size - (p + 1))
                case measure => omega
                case rel =>
                  obtain ⟨hrb, hw1⟩ := HR1.out ⟨q0, q1⟩
                  refine ⟨p + 1, 0, 0, ys, by omega, by omega, rfl, rfl, by omega, by omega, by omega, ⟨HA.out.flush HD.out HY1.out (by rw [HY2.out, HT.out, HKE.out, hrb]) HY3.out⟩, HO2, ⟨blk_grown HX1.out HGR.out (own_ne HO1.out HX1.out (by decide))⟩, ⟨?_⟩, HB2⟩
                  rw [← hw1]
                  exact blk_grown HK1.out HGR.out (own_ne_iter HO1.out HK1.out)
        · have hd8 : d < 8 := by omega
          have hp1 : p + 1 ≠ r.size := by omega
          have hf1 : ((d : Int) + 1 == 9) = false := by simp; omega
          have hf2 : ((p : Int) == (r.size : Int) - 1) = false := by simp; omega
          have HP1 := Aside0.mk hp1
          clear hlast hp1
          go_wp2_with ((with_reducible refine gate_dst (N := 42) rfl ?_); refine next_event rfl _ rfl g rfl r p HI.out hlt ?_; rw [← Hs.out]; intro w1 hk1 hm1; have HK1 := Aside0.mk hk1; have HM1 := Aside0.mk hm1; clear hk1 hm1)
          go_roundg (r.size - (p + 1))
          case measure => omega
          case rel =>
            obtain ⟨hrb, hw1⟩ := HR1.out ⟨q0, q1⟩
            have hnx := HA.out.next HD.out HP1.out
            rw [← hrb] at hnx
            refine ⟨p + 1, d + 1, 10 * n + (q - 48), xs, by omega, by omega, by go_num, rfl, by omega, by omega, ?_, ⟨hnx⟩, ⟨own_wrote HO.out HI.out HM1.out⟩, ⟨HM1.out.blk HX.out (by have := HGG.out; omega)⟩, ⟨by rw [← hw1]; exact HK1.out⟩, ⟨HM1.out.below _ _ (by have := HGG.out; have := HG2.out; omega) BW.out⟩⟩
            have h1 := hnx.n10
            have h2 : (10 : Int) ^ (d + 1) ≤ 1000000000 := pow10_le (by omega)
            omega
      · have hF := digsTo_false r p r.size hlt (HR2.out hdig)
        have HF := Aside0.mk (show parseS s = none from by unfold parseS; rw [HR.out, hF]; rfl)
        clear hF
        rcases (by omega : q < 48 ∨ 57 < q) with q0 | q0
        · have q0' : decide (q < 48) = true := decide_eq_true q0
          go_wp2_with (first | ((with_reducible refine gate_dst (N := 42) rfl ?_); refine next_event rfl _ rfl g rfl r p HI.out hlt ?_; rw [← Hs.out]; intro w1 hk1 hm1; have HX1 := Aside0.mk (hm1.blk HX.out (by have := HGG.out; omega)); have BW1 := Aside0.mk (hm1.below _ _ (by have := HGG.out; have := HG2.out; omega) BW.out); clear hk1 hm1) | ((with_reducible refine gate_store (p := 2) rfl ?_); refine store_row_event rfl rfl 75 _ _ rfl g2 #[.slice none 0 0, .bool false] rfl rfl 75 _ HX1.out size_NI rfl rfl ?_; intro w5 hx5 hw5; have HX5 := Aside0.mk hx5; have HW5 := Aside0.mk hw5; clear hx5 hw5))
          refine bodyPost_ret (results_cell_tmp_row rfl _ _ g2 75 _ (0, 0) _ rfl HX5.out Try.underlying75 rfl size_NI) rfl ?_
          exact ⟨none, 0, ⟨[], false⟩, by rw [HF.out]; rfl, by rw [HF.out]; exact NumAt.zero _, HW5.out.below _ _ (by have := HG2.out; omega) BW1.out⟩
        · have q0' : decide (q < 48) = false := decide_eq_false (by omega)
          go_wp2_with (first | ((with_reducible refine gate_dst (N := 42) rfl ?_); refine next_event rfl _ rfl g rfl r p HI.out hlt ?_; rw [← Hs.out]; intro w1 hk1 hm1; have HX1 := Aside0.mk (hm1.blk HX.out (by have := HGG.out; omega)); have BW1 := Aside0.mk (hm1.below _ _ (by have := HGG.out; have := HG2.out; omega) BW.out); clear hk1 hm1) | ((with_reducible refine gate_store (p := 2) rfl ?_); refine store_row_event rfl rfl 75 _ _ rfl g2 #[.slice none 0 0, .bool false] rfl rfl 75 _ HX1.out size_NI rfl rfl ?_; intro w5 hx5 hw5; have HX5 := Aside0.mk hx5; have HW5 := Aside0.mk hw5; clear hx5 hw5))
          refine bodyPost_ret (results_cell_tmp_row rfl _ _ g2 75 _ (0, 0) _ rfl HX5.out Try.underlying75 rfl size_NI) rfl ?_
          exact ⟨none, 0, ⟨[], false⟩, by rw [HF.out]; rfl, by rw [HF.out]; exact NumAt.zero _, HW5.out.below _ _ (by have := HG2.out; omega) BW1.out⟩
    · have hpe : p = r.size := by omega
      have HPE := Aside0.mk hpe
      have HF := Aside0.mk (show parseS s = some (if true then -(val xs) else val xs) from by
        have h1 := HA.out.fin hpe
        have h2 := HA.out.val
        have h3 := HA.out.digs
        rw [h1.1, h1.2, hpe] at h2
        rw [hpe] at h3
        unfold parseS
        rw [HR.out, h3, HN.out, ← h2]
        simp)
      have hge : ¬ p < r.size := hlt
      obtain ⟨A, c, e1, hl1, hC1⟩ := own_C HO.out
      subst e1
      have HL1 := Aside0.mk hl1
      have HC1 := Aside0.mk hC1
      clear hpe hl1 hC1
      go_wp2_with ((with_reducible refine gate_dst (N := 42) rfl ?_); refine next_end rfl _ rfl g rfl r p HI.out hge ?_)
      refine (made_calls xs A c true wr HC1.out HL1.out).mono ?_
      rintro e w' ⟨rfl, hb'⟩
      have HX1 := Aside0.mk ((hb'.block _ (blk_lt HX.out)).trans HX.out)
      have BW1 := Aside0.mk (below_step BW.out hb')
      have HNA := Aside0.mk (niOf_at HL1.out (Kd.C_below HC1.out hb') HA.out.dx true)
      have HBB := Aside0.mk hb'
      clear hb'
      go_wp2_with ((with_reducible refine gate_store (p := 2) rfl ?_); refine store_row_event rfl rfl 75 _ _ rfl g2 #[.slice A (trim xs).length c,   .bool (true && !(trim xs).isEmpty)] rfl rfl 75 _ HX1.out size_NI rfl rfl ?_; intro w5 hx5 hw5; have HX5 := Aside0.mk hx5; have HW5 := Aside0.mk hw5; clear hx5 hw5)
      refine bodyPost_ret (results_cell_tmp_row rfl _ _ g2 75 _ (0, 0) _ rfl HX5.out Try.underlying75 rfl size_NI) rfl ?_
      have ho5 := own_move (pw_own_below HO.out HBB.out) (fun k hk => HW5.out.other k (fun e1 => own_ne (pw_own_below HO.out HBB.out) HX1.out (by decide) (by rw [hk, e1])))
      obtain ⟨hl5, hC5⟩ := own_C_lit ho5
      exact ⟨A, c, niOf xs true, by rw [HF.out]; rfl, by rw [HF.out]; exact niOf_at hl5 hC5 HA.out.dx true, HW5.out.below _ _ (by have := HG2.out; omega) BW1.out⟩
end Go.Proofs.Ytiokmnabkccpcaa.Kit
