/- Words of this claim: the kinds of the program's structs (how they lie in memory, read and made). -/
import Derived.Test.YtiokmnabkccpcaaProg
import Derived.Test.YtiokmnabkccpcaaWWords
import Derived.Test.YtiokmnabkccpcaaWLast
import Derived.Test.YtiokmnabkccpcaaWMore
import Derived.Test.YtiokmnabkccpcaaWGuard
import Derived.Test.YtiokmnabkccpcaaWZeros
import Derived.Test.YtiokmnabkccpcaaWN
import Derived.Test.YtiokmnabkccpcaaWFoot
import Derived.Test.YtiokmnabkccpcaaWShare
import Derived.Test.YtiokmnabkccpcaaWKept
set_option linter.unusedVariables false
set_option linter.unusedSimpArgs false
namespace Go.Proofs.Ytiokmnabkccpcaa.Kit
open Go.RowKit Go.Proofs.YtiokmnabkccpcaaW.PrintWords Go.Proofs.YtiokmnabkccpcaaW.PrintLast Go.Proofs.YtiokmnabkccpcaaW.PrintMore

/-! #### struct type 70 -/
structure Bd where
  f0 : ByteArray
  f1 : Int
def zBd : Bd := ⟨(⟨#[]⟩ : ByteArray), (0 : Int)⟩
def kBd : Kd Bd := Kd.iso (Kd.pair Kd.string (Kd.int .i64)) (fun x : Bd => (x.f0, x.f1))
theorem kBd_heap : Kd.Heap kBd := Kd.heap_iso _ (Kd.heap_pair Kd.heap_string (Kd.heap_int .i64))
theorem kBd_open {w : World} {x : Bd} {cs : List Value} (h : kBd.K w x cs) : cs = [.string x.f0, .int .i64 x.f1] := by
  obtain ⟨_, _, rfl, rfl, rfl⟩ := h
  exact rfl
theorem kBd_openM {w : World} {base : Nat} {ok : Nat → Prop} {x : Bd} {cs : List Value} (h : kBd.M w base ok x cs) : cs = [.string x.f0, .int .i64 x.f1] := by
  obtain ⟨_, _, rfl, rfl, rfl⟩ := h
  exact rfl
theorem kBd_mk (w : World) (x : Bd)  : kBd.K w x [.string x.f0, .int .i64 x.f1] := ⟨[.string x.f0], [.int .i64 x.f1], rfl, rfl, rfl⟩
theorem kBd_mkM (w : World) (base : Nat) (ok : Nat → Prop) (x : Bd)  : kBd.M w base ok x [.string x.f0, .int .i64 x.f1] := ⟨[.string x.f0], [.int .i64 x.f1], rfl, rfl, rfl⟩
theorem kBd_mkF (W : World) (ok : Nat → Prop) (x : Bd) : Kd.FK kBd W ok x [.string x.f0, .int .i64 x.f1] := fun W2 _ => kBd_mk W2 x
def rd_TBd (xs : List Bd) (i : Int) : Bd := xs.getD i.toNat zBd
theorem at_TBd {w : World} {A : Option Addr} {n : Nat} {xs : List Bd} (h : Kd.C kBd w A n xs) (i : Int) (h0 : 0 ≤ i) (h1 : i < n) : ∃ ad , A = some ad ∧ w.cell? (ad.add (i.toNat * 2)) = some (.string (rd_TBd xs i).f0) ∧ w.cell? ⟨(ad.add (i.toNat * 2)).block, (ad.add (i.toNat * 2)).off + 1, none⟩ = some (.int .i64 (rd_TBd xs i).f1) := by
  obtain ⟨ad, c, e, _, hK, hc0⟩ := Kd.C_get h zBd i h0 h1
  have hc : ∀ j u, c[j]? = some u → w.cell? (ad.add (i.toNat * 2 + j)) = some u := hc0
  obtain rfl := kBd_open hK
  exact ⟨ad, e, hc 0 _ rfl, by rw [← add_field _ _ 1 (by omega)]; exact hc 1 _ rfl⟩

def rd_L5 (xs : List (List Bd)) (i : Int) : (List Bd) := xs.getD i.toNat ([] : List Bd)
theorem at_L5 {w : World} {A : Option Addr} {n : Nat} {xs : List (List Bd)} (h : Kd.C (Kd.slice 70 kBd) w A n xs) (i : Int) (h0 : 0 ≤ i) (h1 : i < n) : ∃ ad A0 c0, A = some ad ∧ w.cell? (ad.add i.toNat) = some (.slice A0 (rd_L5 xs i).length c0) ∧ (rd_L5 xs i).length ≤ c0 ∧ kBd.C w A0 (rd_L5 xs i).length (rd_L5 xs i) := by
  obtain ⟨ad, c, e, _, hK, hc0⟩ := Kd.C_get h ([] : List Bd) i h0 h1
  have hc : ∀ j u, c[j]? = some u → w.cell? (ad.add (i.toNat * 1 + j)) = some u := hc0
  obtain ⟨A0, c0, rfl, l0, g0⟩ := hK
  exact ⟨ad, A0, c0, e, by have hq := hc 0 _ rfl; rwa [Nat.mul_one, Nat.add_zero] at hq, l0, g0⟩

/-! #### struct type 40, nested in itself -/
structure Tm where
  f0 : Int
  f1 : ByteArray
  f2 : Int
  f3 : ByteArray
  f4 : (List Tm)
  f5 : (List Bd)
  f6 : (List Tm)
def zTm : Tm := ⟨(0 : Int), (⟨#[]⟩ : ByteArray), (0 : Int), (⟨#[]⟩ : ByteArray), ([] : List Tm), ([] : List Bd), ([] : List Tm)⟩
def FTm (d : Kd Tm) : Kd Tm := Kd.iso (Kd.pair (Kd.int .i64) (Kd.pair Kd.string (Kd.pair (Kd.int .i64) (Kd.pair Kd.string (Kd.pair (Kd.slice 40 d) (Kd.pair (Kd.slice 70 kBd) (Kd.slice 40 d))))))) (fun x : Tm => (x.f0, x.f1, x.f2, x.f3, x.f4, x.f5, x.f6))
theorem monoTm : Kd.Mono FTm := Kd.mono_iso _ (Kd.mono_pair (Kd.mono_const _) (Kd.mono_pair (Kd.mono_const _) (Kd.mono_pair (Kd.mono_const _) (Kd.mono_pair (Kd.mono_const _) (Kd.mono_pair (Kd.mono_slice 40 Kd.mono_id) (Kd.mono_pair (Kd.mono_const _) (Kd.mono_slice 40 Kd.mono_id)))))))
theorem subTm : Kd.Sub FTm [40, 70] := Kd.sub_iso _ (Kd.sub_pair (Kd.sub_const _ (by decide)) (Kd.sub_pair (Kd.sub_const _ (by decide)) (Kd.sub_pair (Kd.sub_const _ (by decide)) (Kd.sub_pair (Kd.sub_const _ (by decide)) (Kd.sub_pair (Kd.sub_slice 40 (by decide) Kd.sub_id) (Kd.sub_pair (Kd.sub_const _ (by decide)) (Kd.sub_slice 40 (by decide) Kd.sub_id)))))))
theorem szTm : ∀ n, (Kd.upto FTm 7 [40, 70] n).sz = 7 := Kd.upto_sz (fun _ => rfl)
def kTm : Kd Tm := Kd.fix FTm 7 [40, 70] szTm (Kd.upto_E subTm)
theorem kTm_heap : Kd.Heap kTm := Kd.heap_fix (fun _ h_ => Kd.heap_iso _ (Kd.heap_pair (Kd.heap_int .i64) (Kd.heap_pair Kd.heap_string (Kd.heap_pair (Kd.heap_int .i64) (Kd.heap_pair Kd.heap_string (Kd.heap_pair (Kd.heap_slice 40 h_) (Kd.heap_pair (Kd.heap_slice 70 kBd_heap) (Kd.heap_slice 40 h_))))))))
theorem kTm_open {w : World} {x : Tm} {cs : List Value} (h : kTm.K w x cs) : ∃ A4 c4 A5 c5 A6 c6, cs = [.int .i64 x.f0, .string x.f1, .int .i64 x.f2, .string x.f3, .slice A4 x.f4.length c4, .slice A5 x.f5.length c5, .slice A6 x.f6.length c6] ∧ x.f4.length ≤ c4 ∧ kTm.C w A4 x.f4.length x.f4 ∧ x.f5.length ≤ c5 ∧ kBd.C w A5 x.f5.length x.f5 ∧ x.f6.length ≤ c6 ∧ kTm.C w A6 x.f6.length x.f6 := by
  obtain ⟨n, h⟩ := h
  cases n with
  | zero => exact h.elim
  | succ n =>
    obtain ⟨_, _, rfl, rfl, ⟨_, _, rfl, rfl, ⟨_, _, rfl, rfl, ⟨_, _, rfl, rfl, ⟨_, _, rfl, ⟨A4, c4, rfl, l4, g4⟩, ⟨_, _, rfl, ⟨A5, c5, rfl, l5, g5⟩, ⟨A6, c6, rfl, l6, g6⟩⟩⟩⟩⟩⟩⟩ := h
    exact ⟨A4, c4, A5, c5, A6, c6, rfl, l4, Kd.fix_C g4, l5, g5, l6, Kd.fix_C g6⟩
theorem kTm_openM {w : World} {base : Nat} {ok : Nat → Prop} {x : Tm} {cs : List Value} (h : kTm.M w base ok x cs) : ∃ v4 v5 v6, cs = [.int .i64 x.f0, .string x.f1, .int .i64 x.f2, .string x.f3, v4, v5, v6] ∧ kTm.R 40 w base ok v4 x.f4 ∧ kBd.R 70 w base ok v5 x.f5 ∧ kTm.R 40 w base ok v6 x.f6 := by
  obtain ⟨n, h⟩ := h
  cases n with
  | zero => exact h.elim
  | succ n =>
    obtain ⟨_, _, rfl, rfl, ⟨_, _, rfl, rfl, ⟨_, _, rfl, rfl, ⟨_, _, rfl, rfl, ⟨_, _, rfl, ⟨v4, rfl, g4⟩, ⟨_, _, rfl, ⟨v5, rfl, g5⟩, ⟨v6, rfl, g6⟩⟩⟩⟩⟩⟩⟩ := h
    exact ⟨v4, v5, v6, rfl, Kd.fix_R g4, g5, Kd.fix_R g6⟩
theorem kTm_mk (w : World) (x : Tm) {A4 : Option Addr} {c4 : Nat} (l4 : x.f4.length ≤ c4) (g4 : kTm.C w A4 x.f4.length x.f4) {A5 : Option Addr} {c5 : Nat} (l5 : x.f5.length ≤ c5) (g5 : kBd.C w A5 x.f5.length x.f5) {A6 : Option Addr} {c6 : Nat} (l6 : x.f6.length ≤ c6) (g6 : kTm.C w A6 x.f6.length x.f6) : kTm.K w x [.int .i64 x.f0, .string x.f1, .int .i64 x.f2, .string x.f3, .slice A4 x.f4.length c4, .slice A5 x.f5.length c5, .slice A6 x.f6.length c6] := by
  obtain ⟨n4, q4⟩ := Kd.fix_C_back monoTm g4
  obtain ⟨n6, q6⟩ := Kd.fix_C_back monoTm g6
  have r4 := Kd.upto_C_le monoTm szTm (show n4 ≤ (max n4 n6) by omega) q4
  have r6 := Kd.upto_C_le monoTm szTm (show n6 ≤ (max n4 n6) by omega) q6
  exact ⟨(max n4 n6) + 1, ⟨[.int .i64 x.f0], [.string x.f1, .int .i64 x.f2, .string x.f3, .slice A4 x.f4.length c4, .slice A5 x.f5.length c5, .slice A6 x.f6.length c6], rfl, rfl, ⟨[.string x.f1], [.int .i64 x.f2, .string x.f3, .slice A4 x.f4.length c4, .slice A5 x.f5.length c5, .slice A6 x.f6.length c6], rfl, rfl, ⟨[.int .i64 x.f2], [.string x.f3, .slice A4 x.f4.length c4, .slice A5 x.f5.length c5, .slice A6 x.f6.length c6], rfl, rfl, ⟨[.string x.f3], [.slice A4 x.f4.length c4, .slice A5 x.f5.length c5, .slice A6 x.f6.length c6], rfl, rfl, ⟨[.slice A4 x.f4.length c4], [.slice A5 x.f5.length c5, .slice A6 x.f6.length c6], rfl, ⟨A4, c4, rfl, l4, r4⟩, ⟨[.slice A5 x.f5.length c5], [.slice A6 x.f6.length c6], rfl, ⟨A5, c5, rfl, l5, g5⟩, ⟨A6, c6, rfl, l6, r6⟩⟩⟩⟩⟩⟩⟩⟩
theorem kTm_mkM (w : World) (base : Nat) (ok : Nat → Prop) (x : Tm) {v4 : Value} (g4 : kTm.R 40 w base ok v4 x.f4) {v5 : Value} (g5 : kBd.R 70 w base ok v5 x.f5) {v6 : Value} (g6 : kTm.R 40 w base ok v6 x.f6) : kTm.M w base ok x [.int .i64 x.f0, .string x.f1, .int .i64 x.f2, .string x.f3, v4, v5, v6] := by
  obtain ⟨n4, q4⟩ := Kd.fix_R_back monoTm g4
  obtain ⟨n6, q6⟩ := Kd.fix_R_back monoTm g6
  have r4 := Kd.upto_R_le monoTm szTm (show n4 ≤ (max n4 n6) by omega) q4
  have r6 := Kd.upto_R_le monoTm szTm (show n6 ≤ (max n4 n6) by omega) q6
  exact ⟨(max n4 n6) + 1, ⟨[.int .i64 x.f0], [.string x.f1, .int .i64 x.f2, .string x.f3, v4, v5, v6], rfl, rfl, ⟨[.string x.f1], [.int .i64 x.f2, .string x.f3, v4, v5, v6], rfl, rfl, ⟨[.int .i64 x.f2], [.string x.f3, v4, v5, v6], rfl, rfl, ⟨[.string x.f3], [v4, v5, v6], rfl, rfl, ⟨[v4], [v5, v6], rfl, ⟨v4, rfl, r4⟩, ⟨[v5], [v6], rfl, ⟨v5, rfl, g5⟩, ⟨v6, rfl, r6⟩⟩⟩⟩⟩⟩⟩⟩
theorem kTm_openF {W : World} {ok : Nat → Prop} {x : Tm} {cs : List Value} (h : Kd.FK kTm W ok x cs) : ∃ A4 c4 A5 c5 A6 c6, cs = [.int .i64 x.f0, .string x.f1, .int .i64 x.f2, .string x.f3, .slice A4 x.f4.length c4, .slice A5 x.f5.length c5, .slice A6 x.f6.length c6] ∧ x.f4.length ≤ c4 ∧ Kd.F kTm W ok A4 x.f4.length x.f4 ∧ x.f5.length ≤ c5 ∧ Kd.F kBd W ok A5 x.f5.length x.f5 ∧ x.f6.length ≤ c6 ∧ Kd.F kTm W ok A6 x.f6.length x.f6 := by
  obtain ⟨A4, c4, A5, c5, A6, c6, rfl, l4, _, l5, _, l6, _⟩ := kTm_open (Kd.FK_now h)
  exact ⟨A4, c4, A5, c5, A6, c6, rfl, l4, (fun W' hW => by obtain ⟨A4_, c4_, A5_, c5_, A6_, c6_, he, l4_, g4_, l5_, g5_, l6_, g6_⟩ := kTm_open (h W' hW); injection (Option.some.inj (show some (Value.slice A4 x.f4.length c4) = some (Value.slice A4_ x.f4.length c4_) from congrArg (fun l => l[4]?) he)) with ha_ _ _; rw [ha_]; exact g4_), l5, (fun W' hW => by obtain ⟨A4_, c4_, A5_, c5_, A6_, c6_, he, l4_, g4_, l5_, g5_, l6_, g6_⟩ := kTm_open (h W' hW); injection (Option.some.inj (show some (Value.slice A5 x.f5.length c5) = some (Value.slice A5_ x.f5.length c5_) from congrArg (fun l => l[5]?) he)) with ha_ _ _; rw [ha_]; exact g5_), l6, (fun W' hW => by obtain ⟨A4_, c4_, A5_, c5_, A6_, c6_, he, l4_, g4_, l5_, g5_, l6_, g6_⟩ := kTm_open (h W' hW); injection (Option.some.inj (show some (Value.slice A6 x.f6.length c6) = some (Value.slice A6_ x.f6.length c6_) from congrArg (fun l => l[6]?) he)) with ha_ _ _; rw [ha_]; exact g6_)⟩
theorem kTm_mkF (W : World) (ok : Nat → Prop) (x : Tm) {A4 : Option Addr} {c4 : Nat} (l4 : x.f4.length ≤ c4) (g4 : Kd.F kTm W ok A4 x.f4.length x.f4) {A5 : Option Addr} {c5 : Nat} (l5 : x.f5.length ≤ c5) (g5 : Kd.F kBd W ok A5 x.f5.length x.f5) {A6 : Option Addr} {c6 : Nat} (l6 : x.f6.length ≤ c6) (g6 : Kd.F kTm W ok A6 x.f6.length x.f6) : Kd.FK kTm W ok x [.int .i64 x.f0, .string x.f1, .int .i64 x.f2, .string x.f3, .slice A4 x.f4.length c4, .slice A5 x.f5.length c5, .slice A6 x.f6.length c6] := fun W2 hW => kTm_mk W2 x l4 (g4 W2 hW) l5 (g5 W2 hW) l6 (g6 W2 hW)
def rd_TTm (xs : List Tm) (i : Int) : Tm := xs.getD i.toNat zTm
theorem at_TTm {w : World} {A : Option Addr} {n : Nat} {xs : List Tm} (h : Kd.C kTm w A n xs) (i : Int) (h0 : 0 ≤ i) (h1 : i < n) : ∃ ad A4 c4 A5 c5 A6 c6, A = some ad ∧ w.cell? (ad.add (i.toNat * 7)) = some (.int .i64 (rd_TTm xs i).f0) ∧ w.cell? ⟨(ad.add (i.toNat * 7)).block, (ad.add (i.toNat * 7)).off + 1, none⟩ = some (.string (rd_TTm xs i).f1) ∧ w.cell? ⟨(ad.add (i.toNat * 7)).block, (ad.add (i.toNat * 7)).off + 2, none⟩ = some (.int .i64 (rd_TTm xs i).f2) ∧ w.cell? ⟨(ad.add (i.toNat * 7)).block, (ad.add (i.toNat * 7)).off + 3, none⟩ = some (.string (rd_TTm xs i).f3) ∧ w.cell? ⟨(ad.add (i.toNat * 7)).block, (ad.add (i.toNat * 7)).off + 4, none⟩ = some (.slice A4 (rd_TTm xs i).f4.length c4) ∧ w.cell? ⟨(ad.add (i.toNat * 7)).block, (ad.add (i.toNat * 7)).off + 5, none⟩ = some (.slice A5 (rd_TTm xs i).f5.length c5) ∧ w.cell? ⟨(ad.add (i.toNat * 7)).block, (ad.add (i.toNat * 7)).off + 6, none⟩ = some (.slice A6 (rd_TTm xs i).f6.length c6) ∧ (rd_TTm xs i).f4.length ≤ c4 ∧ kTm.C w A4 (rd_TTm xs i).f4.length (rd_TTm xs i).f4 ∧ (rd_TTm xs i).f5.length ≤ c5 ∧ kBd.C w A5 (rd_TTm xs i).f5.length (rd_TTm xs i).f5 ∧ (rd_TTm xs i).f6.length ≤ c6 ∧ kTm.C w A6 (rd_TTm xs i).f6.length (rd_TTm xs i).f6 := by
  obtain ⟨ad, c, e, _, hK, hc0⟩ := Kd.C_get h zTm i h0 h1
  have hc : ∀ j u, c[j]? = some u → w.cell? (ad.add (i.toNat * 7 + j)) = some u := hc0
  obtain ⟨A4, c4, A5, c5, A6, c6, rfl, l4, g4, l5, g5, l6, g6⟩ := kTm_open hK
  exact ⟨ad, A4, c4, A5, c5, A6, c6, e, hc 0 _ rfl, by rw [← add_field _ _ 1 (by omega)]; exact hc 1 _ rfl, by rw [← add_field _ _ 2 (by omega)]; exact hc 2 _ rfl, by rw [← add_field _ _ 3 (by omega)]; exact hc 3 _ rfl, by rw [← add_field _ _ 4 (by omega)]; exact hc 4 _ rfl, by rw [← add_field _ _ 5 (by omega)]; exact hc 5 _ rfl, by rw [← add_field _ _ 6 (by omega)]; exact hc 6 _ rfl, l4, g4, l5, g5, l6, g6⟩

def rd_L7 (xs : List (List Int)) (i : Int) : (List Int) := xs.getD i.toNat ([] : List Int)
theorem at_L7 {w : World} {A : Option Addr} {n : Nat} {xs : List (List Int)} (h : Kd.C (Kd.slice 3 (Kd.int .i64)) w A n xs) (i : Int) (h0 : 0 ≤ i) (h1 : i < n) : ∃ ad A0 c0, A = some ad ∧ w.cell? (ad.add i.toNat) = some (.slice A0 (rd_L7 xs i).length c0) ∧ (rd_L7 xs i).length ≤ c0 ∧ (Kd.int .i64).C w A0 (rd_L7 xs i).length (rd_L7 xs i) := by
  obtain ⟨ad, c, e, _, hK, hc0⟩ := Kd.C_get h ([] : List Int) i h0 h1
  have hc : ∀ j u, c[j]? = some u → w.cell? (ad.add (i.toNat * 1 + j)) = some u := hc0
  obtain ⟨A0, c0, rfl, l0, g0⟩ := hK
  exact ⟨ad, A0, c0, e, by have hq := hc 0 _ rfl; rwa [Nat.mul_one, Nat.add_zero] at hq, l0, g0⟩

/-! #### struct type 35 -/
structure Sg where
  f0 : ByteArray
  f1 : (List Int)
  f2 : Int
def zSg : Sg := ⟨(⟨#[]⟩ : ByteArray), ([] : List Int), (0 : Int)⟩
def kSg : Kd Sg := Kd.iso (Kd.pair Kd.string (Kd.pair (Kd.slice 3 (Kd.int .i64)) (Kd.int .i64))) (fun x : Sg => (x.f0, x.f1, x.f2))
theorem kSg_heap : Kd.Heap kSg := Kd.heap_iso _ (Kd.heap_pair Kd.heap_string (Kd.heap_pair (Kd.heap_slice 3 (Kd.heap_int .i64)) (Kd.heap_int .i64)))
theorem kSg_open {w : World} {x : Sg} {cs : List Value} (h : kSg.K w x cs) : ∃ A1 c1, cs = [.string x.f0, .slice A1 x.f1.length c1, .int .i64 x.f2] ∧ x.f1.length ≤ c1 ∧ (Kd.int .i64).C w A1 x.f1.length x.f1 := by
  obtain ⟨_, _, rfl, rfl, ⟨_, _, rfl, ⟨A1, c1, rfl, l1, g1⟩, rfl⟩⟩ := h
  exact ⟨A1, c1, rfl, l1, g1⟩
theorem kSg_openM {w : World} {base : Nat} {ok : Nat → Prop} {x : Sg} {cs : List Value} (h : kSg.M w base ok x cs) : ∃ v1, cs = [.string x.f0, v1, .int .i64 x.f2] ∧ (Kd.int .i64).R 3 w base ok v1 x.f1 := by
  obtain ⟨_, _, rfl, rfl, ⟨_, _, rfl, ⟨v1, rfl, g1⟩, rfl⟩⟩ := h
  exact ⟨v1, rfl, g1⟩
theorem kSg_mk (w : World) (x : Sg) {A1 : Option Addr} {c1 : Nat} (l1 : x.f1.length ≤ c1) (g1 : (Kd.int .i64).C w A1 x.f1.length x.f1) : kSg.K w x [.string x.f0, .slice A1 x.f1.length c1, .int .i64 x.f2] := ⟨[.string x.f0], [.slice A1 x.f1.length c1, .int .i64 x.f2], rfl, rfl, ⟨[.slice A1 x.f1.length c1], [.int .i64 x.f2], rfl, ⟨A1, c1, rfl, l1, g1⟩, rfl⟩⟩
theorem kSg_mkM (w : World) (base : Nat) (ok : Nat → Prop) (x : Sg) {v1 : Value} (g1 : (Kd.int .i64).R 3 w base ok v1 x.f1) : kSg.M w base ok x [.string x.f0, v1, .int .i64 x.f2] := ⟨[.string x.f0], [v1, .int .i64 x.f2], rfl, rfl, ⟨[v1], [.int .i64 x.f2], rfl, ⟨v1, rfl, g1⟩, rfl⟩⟩
theorem kSg_openF {W : World} {ok : Nat → Prop} {x : Sg} {cs : List Value} (h : Kd.FK kSg W ok x cs) : ∃ A1 c1, cs = [.string x.f0, .slice A1 x.f1.length c1, .int .i64 x.f2] ∧ x.f1.length ≤ c1 ∧ Kd.F (Kd.int .i64) W ok A1 x.f1.length x.f1 := by
  obtain ⟨A1, c1, rfl, l1, _⟩ := kSg_open (Kd.FK_now h)
  exact ⟨A1, c1, rfl, l1, (fun W' hW => by obtain ⟨A1_, c1_, he, l1_, g1_⟩ := kSg_open (h W' hW); injection (Option.some.inj (show some (Value.slice A1 x.f1.length c1) = some (Value.slice A1_ x.f1.length c1_) from congrArg (fun l => l[1]?) he)) with ha_ _ _; rw [ha_]; exact g1_)⟩
theorem kSg_mkF (W : World) (ok : Nat → Prop) (x : Sg) {A1 : Option Addr} {c1 : Nat} (l1 : x.f1.length ≤ c1) (g1 : Kd.F (Kd.int .i64) W ok A1 x.f1.length x.f1) : Kd.FK kSg W ok x [.string x.f0, .slice A1 x.f1.length c1, .int .i64 x.f2] := fun W2 hW => kSg_mk W2 x l1 (g1 W2 hW)
def rd_TSg (xs : List Sg) (i : Int) : Sg := xs.getD i.toNat zSg
theorem at_TSg {w : World} {A : Option Addr} {n : Nat} {xs : List Sg} (h : Kd.C kSg w A n xs) (i : Int) (h0 : 0 ≤ i) (h1 : i < n) : ∃ ad A1 c1, A = some ad ∧ w.cell? (ad.add (i.toNat * 3)) = some (.string (rd_TSg xs i).f0) ∧ w.cell? ⟨(ad.add (i.toNat * 3)).block, (ad.add (i.toNat * 3)).off + 1, none⟩ = some (.slice A1 (rd_TSg xs i).f1.length c1) ∧ w.cell? ⟨(ad.add (i.toNat * 3)).block, (ad.add (i.toNat * 3)).off + 2, none⟩ = some (.int .i64 (rd_TSg xs i).f2) ∧ (rd_TSg xs i).f1.length ≤ c1 ∧ (Kd.int .i64).C w A1 (rd_TSg xs i).f1.length (rd_TSg xs i).f1 := by
  obtain ⟨ad, c, e, _, hK, hc0⟩ := Kd.C_get h zSg i h0 h1
  have hc : ∀ j u, c[j]? = some u → w.cell? (ad.add (i.toNat * 3 + j)) = some u := hc0
  obtain ⟨A1, c1, rfl, l1, g1⟩ := kSg_open hK
  exact ⟨ad, A1, c1, e, hc 0 _ rfl, by rw [← add_field _ _ 1 (by omega)]; exact hc 1 _ rfl, by rw [← add_field _ _ 2 (by omega)]; exact hc 2 _ rfl, l1, g1⟩

def rd_L9 (xs : List (List ByteArray)) (i : Int) : (List ByteArray) := xs.getD i.toNat ([] : List ByteArray)
theorem at_L9 {w : World} {A : Option Addr} {n : Nat} {xs : List (List ByteArray)} (h : Kd.C (Kd.slice 9 Kd.string) w A n xs) (i : Int) (h0 : 0 ≤ i) (h1 : i < n) : ∃ ad A0 c0, A = some ad ∧ w.cell? (ad.add i.toNat) = some (.slice A0 (rd_L9 xs i).length c0) ∧ (rd_L9 xs i).length ≤ c0 ∧ Kd.string.C w A0 (rd_L9 xs i).length (rd_L9 xs i) := by
  obtain ⟨ad, c, e, _, hK, hc0⟩ := Kd.C_get h ([] : List ByteArray) i h0 h1
  have hc : ∀ j u, c[j]? = some u → w.cell? (ad.add (i.toNat * 1 + j)) = some u := hc0
  obtain ⟨A0, c0, rfl, l0, g0⟩ := hK
  exact ⟨ad, A0, c0, e, by have hq := hc 0 _ rfl; rwa [Nat.mul_one, Nat.add_zero] at hq, l0, g0⟩

/-! #### struct type 32 -/
structure Rw where
  f0 : (List ByteArray)
  f1 : ByteArray
def zRw : Rw := ⟨([] : List ByteArray), (⟨#[]⟩ : ByteArray)⟩
def kRw : Kd Rw := Kd.iso (Kd.pair (Kd.slice 9 Kd.string) Kd.string) (fun x : Rw => (x.f0, x.f1))
theorem kRw_heap : Kd.Heap kRw := Kd.heap_iso _ (Kd.heap_pair (Kd.heap_slice 9 Kd.heap_string) Kd.heap_string)
theorem kRw_open {w : World} {x : Rw} {cs : List Value} (h : kRw.K w x cs) : ∃ A0 c0, cs = [.slice A0 x.f0.length c0, .string x.f1] ∧ x.f0.length ≤ c0 ∧ Kd.string.C w A0 x.f0.length x.f0 := by
  obtain ⟨_, _, rfl, ⟨A0, c0, rfl, l0, g0⟩, rfl⟩ := h
  exact ⟨A0, c0, rfl, l0, g0⟩
theorem kRw_openM {w : World} {base : Nat} {ok : Nat → Prop} {x : Rw} {cs : List Value} (h : kRw.M w base ok x cs) : ∃ v0, cs = [v0, .string x.f1] ∧ Kd.string.R 9 w base ok v0 x.f0 := by
  obtain ⟨_, _, rfl, ⟨v0, rfl, g0⟩, rfl⟩ := h
  exact ⟨v0, rfl, g0⟩
theorem kRw_mk (w : World) (x : Rw) {A0 : Option Addr} {c0 : Nat} (l0 : x.f0.length ≤ c0) (g0 : Kd.string.C w A0 x.f0.length x.f0) : kRw.K w x [.slice A0 x.f0.length c0, .string x.f1] := ⟨[.slice A0 x.f0.length c0], [.string x.f1], rfl, ⟨A0, c0, rfl, l0, g0⟩, rfl⟩
theorem kRw_mkM (w : World) (base : Nat) (ok : Nat → Prop) (x : Rw) {v0 : Value} (g0 : Kd.string.R 9 w base ok v0 x.f0) : kRw.M w base ok x [v0, .string x.f1] := ⟨[v0], [.string x.f1], rfl, ⟨v0, rfl, g0⟩, rfl⟩
theorem kRw_openF {W : World} {ok : Nat → Prop} {x : Rw} {cs : List Value} (h : Kd.FK kRw W ok x cs) : ∃ A0 c0, cs = [.slice A0 x.f0.length c0, .string x.f1] ∧ x.f0.length ≤ c0 ∧ Kd.F Kd.string W ok A0 x.f0.length x.f0 := by
  obtain ⟨A0, c0, rfl, l0, _⟩ := kRw_open (Kd.FK_now h)
  exact ⟨A0, c0, rfl, l0, (fun W' hW => by obtain ⟨A0_, c0_, he, l0_, g0_⟩ := kRw_open (h W' hW); injection (Option.some.inj (show some (Value.slice A0 x.f0.length c0) = some (Value.slice A0_ x.f0.length c0_) from congrArg (fun l => l[0]?) he)) with ha_ _ _; rw [ha_]; exact g0_)⟩
theorem kRw_mkF (W : World) (ok : Nat → Prop) (x : Rw) {A0 : Option Addr} {c0 : Nat} (l0 : x.f0.length ≤ c0) (g0 : Kd.F Kd.string W ok A0 x.f0.length x.f0) : Kd.FK kRw W ok x [.slice A0 x.f0.length c0, .string x.f1] := fun W2 hW => kRw_mk W2 x l0 (g0 W2 hW)
def rd_TRw (xs : List Rw) (i : Int) : Rw := xs.getD i.toNat zRw
theorem at_TRw {w : World} {A : Option Addr} {n : Nat} {xs : List Rw} (h : Kd.C kRw w A n xs) (i : Int) (h0 : 0 ≤ i) (h1 : i < n) : ∃ ad A0 c0, A = some ad ∧ w.cell? (ad.add (i.toNat * 2)) = some (.slice A0 (rd_TRw xs i).f0.length c0) ∧ w.cell? ⟨(ad.add (i.toNat * 2)).block, (ad.add (i.toNat * 2)).off + 1, none⟩ = some (.string (rd_TRw xs i).f1) ∧ (rd_TRw xs i).f0.length ≤ c0 ∧ Kd.string.C w A0 (rd_TRw xs i).f0.length (rd_TRw xs i).f0 := by
  obtain ⟨ad, c, e, _, hK, hc0⟩ := Kd.C_get h zRw i h0 h1
  have hc : ∀ j u, c[j]? = some u → w.cell? (ad.add (i.toNat * 2 + j)) = some u := hc0
  obtain ⟨A0, c0, rfl, l0, g0⟩ := kRw_open hK
  exact ⟨ad, A0, c0, e, hc 0 _ rfl, by rw [← add_field _ _ 1 (by omega)]; exact hc 1 _ rfl, l0, g0⟩

def rd_L11 (xs : List (List Rw)) (i : Int) : (List Rw) := xs.getD i.toNat ([] : List Rw)
theorem at_L11 {w : World} {A : Option Addr} {n : Nat} {xs : List (List Rw)} (h : Kd.C (Kd.slice 32 kRw) w A n xs) (i : Int) (h0 : 0 ≤ i) (h1 : i < n) : ∃ ad A0 c0, A = some ad ∧ w.cell? (ad.add i.toNat) = some (.slice A0 (rd_L11 xs i).length c0) ∧ (rd_L11 xs i).length ≤ c0 ∧ kRw.C w A0 (rd_L11 xs i).length (rd_L11 xs i) := by
  obtain ⟨ad, c, e, _, hK, hc0⟩ := Kd.C_get h ([] : List Rw) i h0 h1
  have hc : ∀ j u, c[j]? = some u → w.cell? (ad.add (i.toNat * 1 + j)) = some u := hc0
  obtain ⟨A0, c0, rfl, l0, g0⟩ := hK
  exact ⟨ad, A0, c0, e, by have hq := hc 0 _ rfl; rwa [Nat.mul_one, Nat.add_zero] at hq, l0, g0⟩

/-! #### struct type 28 -/
structure Tb where
  f0 : ByteArray
  f1 : (List Rw)
  f2 : ByteArray
def zTb : Tb := ⟨(⟨#[]⟩ : ByteArray), ([] : List Rw), (⟨#[]⟩ : ByteArray)⟩
def kTb : Kd Tb := Kd.iso (Kd.pair Kd.string (Kd.pair (Kd.slice 32 kRw) Kd.string)) (fun x : Tb => (x.f0, x.f1, x.f2))
theorem kTb_heap : Kd.Heap kTb := Kd.heap_iso _ (Kd.heap_pair Kd.heap_string (Kd.heap_pair (Kd.heap_slice 32 kRw_heap) Kd.heap_string))
theorem kTb_open {w : World} {x : Tb} {cs : List Value} (h : kTb.K w x cs) : ∃ A1 c1, cs = [.string x.f0, .slice A1 x.f1.length c1, .string x.f2] ∧ x.f1.length ≤ c1 ∧ kRw.C w A1 x.f1.length x.f1 := by
  obtain ⟨_, _, rfl, rfl, ⟨_, _, rfl, ⟨A1, c1, rfl, l1, g1⟩, rfl⟩⟩ := h
  exact ⟨A1, c1, rfl, l1, g1⟩
theorem kTb_openM {w : World} {base : Nat} {ok : Nat → Prop} {x : Tb} {cs : List Value} (h : kTb.M w base ok x cs) : ∃ v1, cs = [.string x.f0, v1, .string x.f2] ∧ kRw.R 32 w base ok v1 x.f1 := by
  obtain ⟨_, _, rfl, rfl, ⟨_, _, rfl, ⟨v1, rfl, g1⟩, rfl⟩⟩ := h
  exact ⟨v1, rfl, g1⟩
theorem kTb_mk (w : World) (x : Tb) {A1 : Option Addr} {c1 : Nat} (l1 : x.f1.length ≤ c1) (g1 : kRw.C w A1 x.f1.length x.f1) : kTb.K w x [.string x.f0, .slice A1 x.f1.length c1, .string x.f2] := ⟨[.string x.f0], [.slice A1 x.f1.length c1, .string x.f2], rfl, rfl, ⟨[.slice A1 x.f1.length c1], [.string x.f2], rfl, ⟨A1, c1, rfl, l1, g1⟩, rfl⟩⟩
theorem kTb_mkM (w : World) (base : Nat) (ok : Nat → Prop) (x : Tb) {v1 : Value} (g1 : kRw.R 32 w base ok v1 x.f1) : kTb.M w base ok x [.string x.f0, v1, .string x.f2] := ⟨[.string x.f0], [v1, .string x.f2], rfl, rfl, ⟨[v1], [.string x.f2], rfl, ⟨v1, rfl, g1⟩, rfl⟩⟩
theorem kTb_openF {W : World} {ok : Nat → Prop} {x : Tb} {cs : List Value} (h : Kd.FK kTb W ok x cs) : ∃ A1 c1, cs = [.string x.f0, .slice A1 x.f1.length c1, .string x.f2] ∧ x.f1.length ≤ c1 ∧ Kd.F kRw W ok A1 x.f1.length x.f1 := by
  obtain ⟨A1, c1, rfl, l1, _⟩ := kTb_open (Kd.FK_now h)
  exact ⟨A1, c1, rfl, l1, (fun W' hW => by obtain ⟨A1_, c1_, he, l1_, g1_⟩ := kTb_open (h W' hW); injection (Option.some.inj (show some (Value.slice A1 x.f1.length c1) = some (Value.slice A1_ x.f1.length c1_) from congrArg (fun l => l[1]?) he)) with ha_ _ _; rw [ha_]; exact g1_)⟩
theorem kTb_mkF (W : World) (ok : Nat → Prop) (x : Tb) {A1 : Option Addr} {c1 : Nat} (l1 : x.f1.length ≤ c1) (g1 : Kd.F kRw W ok A1 x.f1.length x.f1) : Kd.FK kTb W ok x [.string x.f0, .slice A1 x.f1.length c1, .string x.f2] := fun W2 hW => kTb_mk W2 x l1 (g1 W2 hW)
def rd_TTb (xs : List Tb) (i : Int) : Tb := xs.getD i.toNat zTb
theorem at_TTb {w : World} {A : Option Addr} {n : Nat} {xs : List Tb} (h : Kd.C kTb w A n xs) (i : Int) (h0 : 0 ≤ i) (h1 : i < n) : ∃ ad A1 c1, A = some ad ∧ w.cell? (ad.add (i.toNat * 3)) = some (.string (rd_TTb xs i).f0) ∧ w.cell? ⟨(ad.add (i.toNat * 3)).block, (ad.add (i.toNat * 3)).off + 1, none⟩ = some (.slice A1 (rd_TTb xs i).f1.length c1) ∧ w.cell? ⟨(ad.add (i.toNat * 3)).block, (ad.add (i.toNat * 3)).off + 2, none⟩ = some (.string (rd_TTb xs i).f2) ∧ (rd_TTb xs i).f1.length ≤ c1 ∧ kRw.C w A1 (rd_TTb xs i).f1.length (rd_TTb xs i).f1 := by
  obtain ⟨ad, c, e, _, hK, hc0⟩ := Kd.C_get h zTb i h0 h1
  have hc : ∀ j u, c[j]? = some u → w.cell? (ad.add (i.toNat * 3 + j)) = some u := hc0
  obtain ⟨A1, c1, rfl, l1, g1⟩ := kTb_open hK
  exact ⟨ad, A1, c1, e, hc 0 _ rfl, by rw [← add_field _ _ 1 (by omega)]; exact hc 1 _ rfl, by rw [← add_field _ _ 2 (by omega)]; exact hc 2 _ rfl, l1, g1⟩

def rd_L13 (xs : List (List Tb)) (i : Int) : (List Tb) := xs.getD i.toNat ([] : List Tb)
theorem at_L13 {w : World} {A : Option Addr} {n : Nat} {xs : List (List Tb)} (h : Kd.C (Kd.slice 28 kTb) w A n xs) (i : Int) (h0 : 0 ≤ i) (h1 : i < n) : ∃ ad A0 c0, A = some ad ∧ w.cell? (ad.add i.toNat) = some (.slice A0 (rd_L13 xs i).length c0) ∧ (rd_L13 xs i).length ≤ c0 ∧ kTb.C w A0 (rd_L13 xs i).length (rd_L13 xs i) := by
  obtain ⟨ad, c, e, _, hK, hc0⟩ := Kd.C_get h ([] : List Tb) i h0 h1
  have hc : ∀ j u, c[j]? = some u → w.cell? (ad.add (i.toNat * 1 + j)) = some u := hc0
  obtain ⟨A0, c0, rfl, l0, g0⟩ := hK
  exact ⟨ad, A0, c0, e, by have hq := hc 0 _ rfl; rwa [Nat.mul_one, Nat.add_zero] at hq, l0, g0⟩

/-! #### struct type 46 -/
structure Md where
  f0 : (List Tb)
  f1 : Int
def zMd : Md := ⟨([] : List Tb), (0 : Int)⟩
def kMd : Kd Md := Kd.iso (Kd.pair (Kd.slice 28 kTb) (Kd.int .i64)) (fun x : Md => (x.f0, x.f1))
theorem kMd_heap : Kd.Heap kMd := Kd.heap_iso _ (Kd.heap_pair (Kd.heap_slice 28 kTb_heap) (Kd.heap_int .i64))
theorem kMd_open {w : World} {x : Md} {cs : List Value} (h : kMd.K w x cs) : ∃ A0 c0, cs = [.slice A0 x.f0.length c0, .int .i64 x.f1] ∧ x.f0.length ≤ c0 ∧ kTb.C w A0 x.f0.length x.f0 := by
  obtain ⟨_, _, rfl, ⟨A0, c0, rfl, l0, g0⟩, rfl⟩ := h
  exact ⟨A0, c0, rfl, l0, g0⟩
theorem kMd_openM {w : World} {base : Nat} {ok : Nat → Prop} {x : Md} {cs : List Value} (h : kMd.M w base ok x cs) : ∃ v0, cs = [v0, .int .i64 x.f1] ∧ kTb.R 28 w base ok v0 x.f0 := by
  obtain ⟨_, _, rfl, ⟨v0, rfl, g0⟩, rfl⟩ := h
  exact ⟨v0, rfl, g0⟩
theorem kMd_mk (w : World) (x : Md) {A0 : Option Addr} {c0 : Nat} (l0 : x.f0.length ≤ c0) (g0 : kTb.C w A0 x.f0.length x.f0) : kMd.K w x [.slice A0 x.f0.length c0, .int .i64 x.f1] := ⟨[.slice A0 x.f0.length c0], [.int .i64 x.f1], rfl, ⟨A0, c0, rfl, l0, g0⟩, rfl⟩
theorem kMd_mkM (w : World) (base : Nat) (ok : Nat → Prop) (x : Md) {v0 : Value} (g0 : kTb.R 28 w base ok v0 x.f0) : kMd.M w base ok x [v0, .int .i64 x.f1] := ⟨[v0], [.int .i64 x.f1], rfl, ⟨v0, rfl, g0⟩, rfl⟩
theorem kMd_openF {W : World} {ok : Nat → Prop} {x : Md} {cs : List Value} (h : Kd.FK kMd W ok x cs) : ∃ A0 c0, cs = [.slice A0 x.f0.length c0, .int .i64 x.f1] ∧ x.f0.length ≤ c0 ∧ Kd.F kTb W ok A0 x.f0.length x.f0 := by
  obtain ⟨A0, c0, rfl, l0, _⟩ := kMd_open (Kd.FK_now h)
  exact ⟨A0, c0, rfl, l0, (fun W' hW => by obtain ⟨A0_, c0_, he, l0_, g0_⟩ := kMd_open (h W' hW); injection (Option.some.inj (show some (Value.slice A0 x.f0.length c0) = some (Value.slice A0_ x.f0.length c0_) from congrArg (fun l => l[0]?) he)) with ha_ _ _; rw [ha_]; exact g0_)⟩
theorem kMd_mkF (W : World) (ok : Nat → Prop) (x : Md) {A0 : Option Addr} {c0 : Nat} (l0 : x.f0.length ≤ c0) (g0 : Kd.F kTb W ok A0 x.f0.length x.f0) : Kd.FK kMd W ok x [.slice A0 x.f0.length c0, .int .i64 x.f1] := fun W2 hW => kMd_mk W2 x l0 (g0 W2 hW)
def rd_TMd (xs : List Md) (i : Int) : Md := xs.getD i.toNat zMd
theorem at_TMd {w : World} {A : Option Addr} {n : Nat} {xs : List Md} (h : Kd.C kMd w A n xs) (i : Int) (h0 : 0 ≤ i) (h1 : i < n) : ∃ ad A0 c0, A = some ad ∧ w.cell? (ad.add (i.toNat * 2)) = some (.slice A0 (rd_TMd xs i).f0.length c0) ∧ w.cell? ⟨(ad.add (i.toNat * 2)).block, (ad.add (i.toNat * 2)).off + 1, none⟩ = some (.int .i64 (rd_TMd xs i).f1) ∧ (rd_TMd xs i).f0.length ≤ c0 ∧ kTb.C w A0 (rd_TMd xs i).f0.length (rd_TMd xs i).f0 := by
  obtain ⟨ad, c, e, _, hK, hc0⟩ := Kd.C_get h zMd i h0 h1
  have hc : ∀ j u, c[j]? = some u → w.cell? (ad.add (i.toNat * 2 + j)) = some u := hc0
  obtain ⟨A0, c0, rfl, l0, g0⟩ := kMd_open hK
  exact ⟨ad, A0, c0, e, hc 0 _ rfl, by rw [← add_field _ _ 1 (by omega)]; exact hc 1 _ rfl, l0, g0⟩

def rd_L15 (xs : List (List Int)) (i : Int) : (List Int) := xs.getD i.toNat ([] : List Int)
theorem at_L15 {w : World} {A : Option Addr} {n : Nat} {xs : List (List Int)} (h : Kd.C (Kd.slice 102 (Kd.int .u32)) w A n xs) (i : Int) (h0 : 0 ≤ i) (h1 : i < n) : ∃ ad A0 c0, A = some ad ∧ w.cell? (ad.add i.toNat) = some (.slice A0 (rd_L15 xs i).length c0) ∧ (rd_L15 xs i).length ≤ c0 ∧ (Kd.int .u32).C w A0 (rd_L15 xs i).length (rd_L15 xs i) := by
  obtain ⟨ad, c, e, _, hK, hc0⟩ := Kd.C_get h ([] : List Int) i h0 h1
  have hc : ∀ j u, c[j]? = some u → w.cell? (ad.add (i.toNat * 1 + j)) = some u := hc0
  obtain ⟨A0, c0, rfl, l0, g0⟩ := hK
  exact ⟨ad, A0, c0, e, by have hq := hc 0 _ rfl; rwa [Nat.mul_one, Nat.add_zero] at hq, l0, g0⟩

/-! #### struct type 75 -/
structure NI where
  f0 : (List Int)
  f1 : Bool
def zNI : NI := ⟨([] : List Int), false⟩
def kNI : Kd NI := Kd.iso (Kd.pair (Kd.slice 102 (Kd.int .u32)) Kd.bool) (fun x : NI => (x.f0, x.f1))
theorem kNI_heap : Kd.Heap kNI := Kd.heap_iso _ (Kd.heap_pair (Kd.heap_slice 102 (Kd.heap_int .u32)) Kd.heap_bool)
theorem kNI_open {w : World} {x : NI} {cs : List Value} (h : kNI.K w x cs) : ∃ A0 c0, cs = [.slice A0 x.f0.length c0, .bool x.f1] ∧ x.f0.length ≤ c0 ∧ (Kd.int .u32).C w A0 x.f0.length x.f0 := by
  obtain ⟨_, _, rfl, ⟨A0, c0, rfl, l0, g0⟩, rfl⟩ := h
  exact ⟨A0, c0, rfl, l0, g0⟩
theorem kNI_openM {w : World} {base : Nat} {ok : Nat → Prop} {x : NI} {cs : List Value} (h : kNI.M w base ok x cs) : ∃ v0, cs = [v0, .bool x.f1] ∧ (Kd.int .u32).R 102 w base ok v0 x.f0 := by
  obtain ⟨_, _, rfl, ⟨v0, rfl, g0⟩, rfl⟩ := h
  exact ⟨v0, rfl, g0⟩
theorem kNI_mk (w : World) (x : NI) {A0 : Option Addr} {c0 : Nat} (l0 : x.f0.length ≤ c0) (g0 : (Kd.int .u32).C w A0 x.f0.length x.f0) : kNI.K w x [.slice A0 x.f0.length c0, .bool x.f1] := ⟨[.slice A0 x.f0.length c0], [.bool x.f1], rfl, ⟨A0, c0, rfl, l0, g0⟩, rfl⟩
theorem kNI_mkM (w : World) (base : Nat) (ok : Nat → Prop) (x : NI) {v0 : Value} (g0 : (Kd.int .u32).R 102 w base ok v0 x.f0) : kNI.M w base ok x [v0, .bool x.f1] := ⟨[v0], [.bool x.f1], rfl, ⟨v0, rfl, g0⟩, rfl⟩
theorem kNI_openF {W : World} {ok : Nat → Prop} {x : NI} {cs : List Value} (h : Kd.FK kNI W ok x cs) : ∃ A0 c0, cs = [.slice A0 x.f0.length c0, .bool x.f1] ∧ x.f0.length ≤ c0 ∧ Kd.F (Kd.int .u32) W ok A0 x.f0.length x.f0 := by
  obtain ⟨A0, c0, rfl, l0, _⟩ := kNI_open (Kd.FK_now h)
  exact ⟨A0, c0, rfl, l0, (fun W' hW => by obtain ⟨A0_, c0_, he, l0_, g0_⟩ := kNI_open (h W' hW); injection (Option.some.inj (show some (Value.slice A0 x.f0.length c0) = some (Value.slice A0_ x.f0.length c0_) from congrArg (fun l => l[0]?) he)) with ha_ _ _; rw [ha_]; exact g0_)⟩
theorem kNI_mkF (W : World) (ok : Nat → Prop) (x : NI) {A0 : Option Addr} {c0 : Nat} (l0 : x.f0.length ≤ c0) (g0 : Kd.F (Kd.int .u32) W ok A0 x.f0.length x.f0) : Kd.FK kNI W ok x [.slice A0 x.f0.length c0, .bool x.f1] := fun W2 hW => kNI_mk W2 x l0 (g0 W2 hW)
def rd_TNI (xs : List NI) (i : Int) : NI := xs.getD i.toNat zNI
theorem at_TNI {w : World} {A : Option Addr} {n : Nat} {xs : List NI} (h : Kd.C kNI w A n xs) (i : Int) (h0 : 0 ≤ i) (h1 : i < n) : ∃ ad A0 c0, A = some ad ∧ w.cell? (ad.add (i.toNat * 2)) = some (.slice A0 (rd_TNI xs i).f0.length c0) ∧ w.cell? ⟨(ad.add (i.toNat * 2)).block, (ad.add (i.toNat * 2)).off + 1, none⟩ = some (.bool (rd_TNI xs i).f1) ∧ (rd_TNI xs i).f0.length ≤ c0 ∧ (Kd.int .u32).C w A0 (rd_TNI xs i).f0.length (rd_TNI xs i).f0 := by
  obtain ⟨ad, c, e, _, hK, hc0⟩ := Kd.C_get h zNI i h0 h1
  have hc : ∀ j u, c[j]? = some u → w.cell? (ad.add (i.toNat * 2 + j)) = some u := hc0
  obtain ⟨A0, c0, rfl, l0, g0⟩ := kNI_open hK
  exact ⟨ad, A0, c0, e, hc 0 _ rfl, by rw [← add_field _ _ 1 (by omega)]; exact hc 1 _ rfl, l0, g0⟩

def rd_L17 (xs : List (List Sg)) (i : Int) : (List Sg) := xs.getD i.toNat ([] : List Sg)
theorem at_L17 {w : World} {A : Option Addr} {n : Nat} {xs : List (List Sg)} (h : Kd.C (Kd.slice 35 kSg) w A n xs) (i : Int) (h0 : 0 ≤ i) (h1 : i < n) : ∃ ad A0 c0, A = some ad ∧ w.cell? (ad.add i.toNat) = some (.slice A0 (rd_L17 xs i).length c0) ∧ (rd_L17 xs i).length ≤ c0 ∧ kSg.C w A0 (rd_L17 xs i).length (rd_L17 xs i) := by
  obtain ⟨ad, c, e, _, hK, hc0⟩ := Kd.C_get h ([] : List Sg) i h0 h1
  have hc : ∀ j u, c[j]? = some u → w.cell? (ad.add (i.toNat * 1 + j)) = some u := hc0
  obtain ⟨A0, c0, rfl, l0, g0⟩ := hK
  exact ⟨ad, A0, c0, e, by have hq := hc 0 _ rfl; rwa [Nat.mul_one, Nat.add_zero] at hq, l0, g0⟩

def rd_L18 (xs : List (List Tm)) (i : Int) : (List Tm) := xs.getD i.toNat ([] : List Tm)
theorem at_L18 {w : World} {A : Option Addr} {n : Nat} {xs : List (List Tm)} (h : Kd.C (Kd.slice 40 kTm) w A n xs) (i : Int) (h0 : 0 ≤ i) (h1 : i < n) : ∃ ad A0 c0, A = some ad ∧ w.cell? (ad.add i.toNat) = some (.slice A0 (rd_L18 xs i).length c0) ∧ (rd_L18 xs i).length ≤ c0 ∧ kTm.C w A0 (rd_L18 xs i).length (rd_L18 xs i) := by
  obtain ⟨ad, c, e, _, hK, hc0⟩ := Kd.C_get h ([] : List Tm) i h0 h1
  have hc : ∀ j u, c[j]? = some u → w.cell? (ad.add (i.toNat * 1 + j)) = some u := hc0
  obtain ⟨A0, c0, rfl, l0, g0⟩ := hK
  exact ⟨ad, A0, c0, e, by have hq := hc 0 _ rfl; rwa [Nat.mul_one, Nat.add_zero] at hq, l0, g0⟩

end Go.Proofs.Ytiokmnabkccpcaa.Kit
