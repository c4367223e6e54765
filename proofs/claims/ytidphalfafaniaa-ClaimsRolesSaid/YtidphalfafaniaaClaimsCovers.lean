/-
  vigillaw05.ClaimsCovers returns true, whatever it is called with. Conditions: none but that the arguments are ints.
-/
import Derived.Test.YtidphalfafaniaaCl3
import Derived.Test.YtidphalfafaniaaOpen
import Derived.Test.YtidphalfafaniaaMod
import Derived.Test.YtidphalfafaniaaJoin
namespace Go.Proofs.Ytidphalfafaniaa
set_option linter.unusedVariables false
open Go.RowKit

theorem mod_nat (x n : Int) (h0 : 0 < n) (h1 : n ≤ 1000000) : ∃ T : Nat, wrap64 ((IntKind.u64.wrap x).tmod n) = (T : Int) ∧ (T : Int) < n := by
  obtain ⟨T, hT, a, b⟩ := mod_any x n h0 h1
  exact ⟨T.toNat, by rw [hT]; omega, by omega⟩

theorem covers_is (a b : Nat) (v : Bool) (h : covB a b = v) (ha : a < 256) (hb : b < 256) (w : World) : Calls Try.prog 51 #[.int .i64 a, .int .i64 b] w fun e w' => e = .returned (.bool v) ∧ w = w' := by
  subst h
  exact covers_any a b ha hb w
theorem mask_ok (l : List Int) (n : Nat) (hn : l.length = n) (h : rolesOk l = true) (A : Option Addr) (c : Nat) (w : World) (hl : Rd w w.heap.size 1 A n (l.map (.int .i64))) (hm : n ≤ maxLen) :
    Calls Try.prog 53 #[.slice A n c] w fun e w' => e = .returned (.tuple #[.int .i64 (maskN l : Nat), .int .i64 0]) ∧ w = w' := by
  subst hn
  refine (mask_any l A c w hl hm).mono fun e w' ⟨h1, h2⟩ => ⟨?_, h2⟩
  rw [h1, if_pos h]
theorem roles_ok (a b : Nat) : rolesOk (rolesN a ++ rolesN b) = true := by
  rw [rolesOk_iff]
  intro r hr
  rcases List.mem_append.1 hr with h | h <;> (obtain ⟨q, h1, _, rfl⟩ := (rolesN_mem _ r).1 h; omega)
theorem union_bit (a b i : Nat) (ha : a < 256) (hb : b < 256) : (maskN (rolesN a ++ rolesN b)).testBit i = (a.testBit i || b.testBit i) := by
  rw [Bool.eq_iff_iff, maskN_bit _ (fun r hr => ((rolesOk_iff _).1 (roles_ok a b) r hr).1), List.mem_append, rolesN_mem, rolesN_mem, Bool.or_eq_true]
  have key : ∀ m : Nat, m < 256 → ((∃ r : Nat, r < 8 ∧ m.testBit r = true ∧ (i : Int) = r) ↔ m.testBit i = true) := by
    intro m hm
    constructor
    · rintro ⟨r, _, h, e⟩
      have : i = r := by omega
      rw [this]; exact h
    · intro h
      refine ⟨i, ?_, h, rfl⟩
      rcases Nat.lt_or_ge i 8 with h1 | h1
      · exact h1
      · rw [bit_high hm h1] at h; cases h
  rw [key a ha, key b hb]
theorem union_a (a b : Nat) (ha : a < 256) (hb : b < 256) : covB (maskN (rolesN a ++ rolesN b)) a = true := (covB_iff _ _).2 fun r _ h => by rw [union_bit a b r ha hb, h]; rfl
theorem union_b (a b : Nat) (ha : a < 256) (hb : b < 256) : covB (maskN (rolesN a ++ rolesN b)) b = true := (covB_iff _ _).2 fun r _ h => by rw [union_bit a b r ha hb, h]; simp
theorem union_c (a b c : Nat) (ha : a < 256) (hb : b < 256) (h1 : covB c a = true) (h2 : covB c b = true) : covB c (maskN (rolesN a ++ rolesN b)) = true := (covB_iff _ _).2 fun r hr h => by
  rw [union_bit a b r ha hb, Bool.or_eq_true] at h
  rcases h with h | h
  · exact (covB_iff _ _).1 h1 r hr h
  · exact (covB_iff _ _).1 h2 r hr h
theorem ints_one (l : List Int) : ∀ u ∈ l.map (Value.int .i64), u.oneCell' = true := by
  intro u hu
  obtain ⟨b, _, rfl⟩ := List.mem_map.1 hu
  rfl
theorem rolesN_len (m : Nat) : (rolesN m).length ≤ 8 := by
  have := rolesK_len m 8
  exact this

set_option maxRecDepth 100000 in
set_option maxHeartbeats 8000000 in
theorem contract_claimsCovers (W : World) (v0 v1 v2 : Value) (a0 : ∃ z, v0 = .int .i64 z ∧ in64 z) (a1 : ∃ z, v1 = .int .i64 z ∧ in64 z) (a2 : ∃ z, v2 = .int .i64 z ∧ in64 z) :
    Calls Try.prog 13 #[v0, v1, v2] W fun e W' => e = .returned (.bool true) ∧ Below W.heap.size W W' := by
  obtain ⟨z0, rfl, _⟩ := a0
  obtain ⟨z1, rfl, _⟩ := a1
  obtain ⟨z2, rfl, _⟩ := a2
  obtain ⟨a, ha, ha'⟩ := mod_nat z0 256 (by omega) (by omega)
  obtain ⟨b, hb, hb'⟩ := mod_nat z1 256 (by omega) (by omega)
  obtain ⟨c, hc, hc'⟩ := mod_nat z2 256 (by omega) (by omega)
  go_enter Try.func13, Try.ntmps13
  go_wp2_with fail
  refine (covers_any a b (by omega) (by omega) _).mono ?_
  rintro e w' ⟨rfl, rfl⟩
  go_wp2_with fail
  refine (covers_any b a (by omega) (by omega) _).mono ?_
  rintro e w' ⟨rfl, rfl⟩
  go_wp2_with fail
  refine (covers_any b c (by omega) (by omega) _).mono ?_
  rintro e w' ⟨rfl, rfl⟩
  go_wp2_with fail
  refine (roles_any a _ (by omega)).mono ?_
  rintro e w1 ⟨v1, rfl, f1⟩
  have M1 := Lib.hid ((Mst.start W).addr f1)
  clear f1
  go_wp2_with fail
  refine (roles_any b _ (by omega)).mono ?_
  rintro e w2 ⟨v2, rfl, f2⟩
  have m2 := M1.out.addr f2
  obtain ⟨A2, c2, rfl, _⟩ := own_form f2.own
  have M2 := Lib.hid m2
  have la := rolesN_len a
  have lb := rolesN_len b
  clear f2 m2
  go_wp2_with (at_builtin; refine wpList_appM rfl _ _ 37 rfl [_] M2.out el_int rfl _ _ _ _ ((rolesN b).map (.int .i64)) rfl (own_rd (M2.out.row [])) (ints_one _) (by unfold maxLen; omega) (by omega) ?_; intro A3 c3 w3 s3; have M3 := Lib.hid s3; clear s3)
  obtain ⟨m, hm⟩ : ∃ m, maskN (rolesN a ++ rolesN b) = m := ⟨_, rfl⟩
  have m256 : m < 256 := by rw [← hm]; exact maskN_lt _ ((rolesOk_iff _).1 (roles_ok a b))
  have hma := union_a a b (by omega) (by omega)
  have hmb := union_b a b (by omega) (by omega)
  have hmc := union_c a b c (by omega) (by omega)
  have hq := mask_ok (rolesN a ++ rolesN b) ((rolesN a).length + (rolesN b).length) (by simp) (roles_ok a b) A3 c3 w3 (by have := own_rd (M3.out.row [_]); rw [← List.map_append] at this; exact this) (by unfold maxLen; omega)
  rw [hm] at hma hmb hmc hq
  refine hq.mono ?_
  clear hq hm
  rintro e w' ⟨rfl, rfl⟩
  have haa := covB_refl a
  have HC := Lib.hid hmc
  clear hmc
  go_wp2_with fail
  refine (known05 _).mono ?_
  rintro e w4 ⟨rfl, hb4⟩
  have HB := Lib.hid (M3.out.below hb4).bel
  clear hb4
  have key1 : covB c a = false ∨ (covB c a = true ∧ covB c b = false) ∨ (covB c a = true ∧ covB c b = true ∧ covB c m = true) := by
    cases h1 : covB c a with
    | false => exact .inl rfl
    | true =>
      cases h2 : covB c b with
      | false => exact .inr (.inl ⟨rfl, rfl⟩)
      | true => exact .inr (.inr ⟨rfl, rfl, HC.out h1 h2⟩)
  have key2 : covB a b = false ∨ (covB a b = true ∧ covB b a = false ∧ covB b c = false) ∨ (covB a b = true ∧ covB b a = false ∧ covB b c = true ∧ covB a c = true) ∨
      (covB a b = true ∧ covB b a = true ∧ ((a : Int) == (b : Int)) = true ∧ covB b c = false) ∨ (covB a b = true ∧ covB b a = true ∧ ((a : Int) == (b : Int)) = true ∧ covB b c = true ∧ covB a c = true) := by
    cases h1 : covB a b with
    | false => exact .inl rfl
    | true =>
      have ht : covB b c = true → covB a c = true := fun h => covB_trans h1 h
      have he : covB b a = true → ((a : Int) == (b : Int)) = true := fun h => by rw [covB_anti (by omega) (by omega) h1 h]; simp
      cases h2 : covB b a with
      | false =>
        cases h3 : covB b c with
        | false => exact .inr (.inl ⟨rfl, rfl, rfl⟩)
        | true => exact .inr (.inr (.inl ⟨rfl, rfl, rfl, ht h3⟩))
      | true =>
        cases h3 : covB b c with
        | false => exact .inr (.inr (.inr (.inl ⟨rfl, rfl, he h2, rfl⟩)))
        | true => exact .inr (.inr (.inr (.inr ⟨rfl, rfl, he h2, rfl, ht h3⟩)))
  rcases key1 with hca | ⟨hca, hcb⟩ | ⟨hca, hcb, hcm⟩
  all_goals
    rcases key2 with hab | ⟨hab, hba, hbc⟩ | ⟨hab, hba, hbc, hac⟩ | ⟨hab, hba, heq, hbc⟩ | ⟨hab, hba, heq, hbc, hac⟩
  all_goals
    go_wp2_with (first
      | ((with_reducible refine (covers_is a a true haa (by omega) (by omega) _).mono ?_); rintro e w' ⟨rfl, rfl⟩)
      | ((with_reducible refine (covers_is a c true hac (by omega) (by omega) _).mono ?_); rintro e w' ⟨rfl, rfl⟩)
      | ((with_reducible refine (covers_is m a true hma (by omega) (by omega) _).mono ?_); rintro e w' ⟨rfl, rfl⟩)
      | ((with_reducible refine (covers_is m b true hmb (by omega) (by omega) _).mono ?_); rintro e w' ⟨rfl, rfl⟩)
      | ((with_reducible refine (covers_is c a _ hca (by omega) (by omega) _).mono ?_); rintro e w' ⟨rfl, rfl⟩)
      | ((with_reducible refine (covers_is c b _ hcb (by omega) (by omega) _).mono ?_); rintro e w' ⟨rfl, rfl⟩)
      | ((with_reducible refine (covers_is c m _ hcm (by omega) (by omega) _).mono ?_); rintro e w' ⟨rfl, rfl⟩))
    go_ret
    exact ⟨rfl, HB.out⟩
end Go.Proofs.Ytidphalfafaniaa
