/- Contracts of package events: Word, Text; nil logs; strconv.Itoa. -/
import Derived.Test.YtnopmdhjamkoaaaDoorEv13
import Derived.Test.YtnopmdhjamkoaaaDoorShelfI
import Derived.WalkSmall
import Derived.Lib.ItoaLen
import Derived.Lib.AppendIntMem
import Derived.Laws.Concat
namespace Go.Proofs.YtnopmdhjamkoaaaDoor
set_option linter.unusedVariables false
set_option linter.unusedSimpArgs false
open Go.RowKit

/-- The table of powers of ten holds what was laid there. -/
abbrev Tab10 (w : World) : Prop := Lib.TabIs Tryd.prog w "internal/strconv.uint64pow10" .u64 Lib.pow10Tab
/-- A number's text. -/
def itB (n : Int) : ByteArray := ⟨(Lib.itoa n).toArray⟩
theorem itB_size {n : Int} (h0 : -9223372036854775808 ≤ n) (h1 : n ≤ 9223372036854775807) : (itB n).size ≤ 21 := by
  have := Lib.itoa_length_le n h0 h1
  simpa [itB, ByteArray.size] using this
theorem itoa_any (n : Int) (h0 : -9223372036854775808 ≤ n) (h1 : n ≤ 9223372036854775807) (w : World) (hT : Tab10 w) :
    Calls Tryd.prog 9 #[.int .i64 n] w fun e w' => e = .returned (.string (itB n)) ∧ Below w.heap.size w w' := by
  refine (Go.Proofs.Tryd.strconv_Itoa n h0 h1 w hT).mono ?_
  rintro e w' ⟨rfl, k, os, rfl⟩
  exact ⟨rfl, Lib.below_grow _ _ (Nat.le_refl _) _ _⟩

def wd5 : List ByteArray := [⟨#[99, 97, 109, 101]⟩, ⟨#[100, 111, 117, 98, 116]⟩, ⟨#[98, 97, 99, 107]⟩, ⟨#[119, 101, 110, 116]⟩, ⟨#[116, 111, 108, 100]⟩]
/-- A kind's word. -/
def wdB (k : Nat) : ByteArray := wd5.getD k ⟨#[]⟩
abbrev wda : Array Value := #[.string ⟨#[99, 97, 109, 101]⟩, .string ⟨#[100, 111, 117, 98, 116]⟩, .string ⟨#[98, 97, 99, 107]⟩, .string ⟨#[119, 101, 110, 116]⟩, .string ⟨#[116, 111, 108, 100]⟩]
theorem wda_at {k : Nat} (h : k < 5) : wda[k]? = some (.string (wdB k)) := by
  have h : k = 0 ∨ k = 1 ∨ k = 2 ∨ k = 3 ∨ k = 4 := by omega
  rcases h with rfl | rfl | rfl | rfl | rfl <;> rfl
theorem wdB_size (k : Nat) : (wdB k).size ≤ 5 := by
  by_cases h : k < 5
  · have h : k = 0 ∨ k = 1 ∨ k = 2 ∨ k = 3 ∨ k = 4 := by omega
    rcases h with rfl | rfl | rfl | rfl | rfl <;> decide
  · have : wdB k = ⟨#[]⟩ := by
      unfold wdB
      rw [List.getD_eq_getElem?_getD, List.getElem?_eq_none (by simp [wd5]; omega)]
      rfl
    rw [this]
    decide
theorem idx5 (k : Nat) (hk : k < 5) (w : World) : (Instr.index 24 (.agg wda) (.int .i64 (k : Int))).run Tryd.prog w = .ok (.string (wdB k)) w := by
  have h : k = 0 ∨ k = 1 ∨ k = 2 ∨ k = 3 ∨ k = 4 := by omega
  rcases h with rfl | rfl | rfl | rfl | rfl <;> (show _ = _; kernel_rfl)
set_option maxRecDepth 100000 in
set_option maxHeartbeats 1000000 in
theorem evword_yes (k : Nat) (hk : k < 5) (s : ByteArray) (hs : wdB k = s) (w : World) : Calls Tryd.prog 11 #[.int .i64 (k : Int)] w fun r w' => r = .returned (.string s) ∧ w = w' := by
  have hix := idx5 k hk
  rw [hs] at hix
  have i1 : (k : Int) < 5 := by omega
  have i2 : (0 : Int) ≤ k := by omega
  clear hs
  go_enter Tryd.func11, Tryd.ntmps11
  go_wp2
  go_ret
  exact ⟨rfl, rfl⟩
set_option maxRecDepth 100000 in
set_option maxHeartbeats 1000000 in
theorem evword_no (k : Int) (h : k < 0 ∨ 5 ≤ k) (w : World) : Calls Tryd.prog 11 #[.int .i64 k] w fun r w' => r = .returned (.string ⟨#[]⟩) ∧ w = w' := by
  have hc : k < 0 ∨ (0 ≤ k ∧ 5 ≤ k) := by omega
  clear h
  rcases hc with h1 | ⟨h1, h2⟩
  all_goals
    go_enter Tryd.func11, Tryd.ntmps11
    go_wp2
    go_ret
    exact ⟨rfl, rfl⟩

theorem str_add {a b : ByteArray} {n m : Nat} (ha : a.size ≤ n) (hb : b.size ≤ m) (h : n + m ≤ 1000000) : (∀ w, (Op.stringOp .add a b).run Tryd.prog w = .ok (.string (a ++ b)) w) ∧ (a ++ b).size ≤ n + m :=
  ⟨fun w => run_string_add_sum w a b (by omega), by rw [ByteArray.size_append]; omega⟩
abbrev spS : ByteArray := ⟨#[32]⟩
/-- An event's text: without, and with its role. -/
def txB (t k i : Int) : ByteArray := itB t ++ spS ++ wdB k.toNat ++ spS ++ itB i
def txR (r : Int) : ByteArray := spS ++ itB r
def txE (e : Ev) : ByteArray := if e.chk = 0 then (if e.k = 4 then txB e.t e.k e.i ++ txR e.r else txB e.t e.k e.i) else ⟨#[]⟩

theorem evput_nil (A : Option Addr) (n c : Nat) (w : World) : Calls Tryd.prog 14 #[.pointer none, .slice A n c] w fun r w' => r = .returned (.int .i64 0) ∧ w = w' := by
  go_enter Tryd.func14, Tryd.ntmps14
  go_wp2_with fail
  go_step3
  go_wp2_with fail
  try rw [Exit.noGoto_ret]
  go_ret
  exact ⟨rfl, rfl⟩
theorem such_nil (m : Int) (F : Nat) (p : Value) (w : World) : Calls Tryd.prog 52 #[.pointer none, .int .i64 m, .func (Fn.func F) #[] #[p]] w fun r w' => r = .returned (.slice none 0 0) ∧ Below w.heap.size w w' := by
  go_enter Tryd.func52, Tryd.ntmps52
  go_wp2
  go_ret
  exact ⟨rfl, ((Below.refl _ _).alloc (Nat.le_refl _) _).alloc (by simp) _⟩
theorem read_nil27 (m : Int) (w : World) : Calls Tryd.prog 15 #[.pointer none, .int .i64 m, .slice none 0 0] w fun r w' => r = .returned (.slice none 0 0) ∧ Below w.heap.size w w' := by
  have HB := Lib.hid ((Below.refl w.heap.size w).alloc (Nat.le_refl _) (.cells #[.slice none 0 0] 85))
  go_enter Tryd.func15, Tryd.ntmps15
  go_wp2_with fail
  refine (such_nil _ _ _ _).mono ?_
  rintro r w1 ⟨rfl, hb⟩
  have HB2 := Lib.hid (HB.out.trans (hb.mono (by simp)))
  clear hb
  go_wp2
  go_ret
  exact ⟨rfl, HB2.out⟩
theorem since_nil27 (t m : Int) (w : World) : Calls Tryd.prog 16 #[.pointer none, .int .i64 t, .int .i64 m] w fun r w' => r = .returned (.slice none 0 0) ∧ Below w.heap.size w w' := by
  have HB := Lib.hid ((Below.refl w.heap.size w).alloc (Nat.le_refl _) (.cells #[.int .i64 t] 3))
  go_enter Tryd.func16, Tryd.ntmps16
  go_wp2_with fail
  refine (such_nil _ _ _ _).mono ?_
  rintro r w1 ⟨rfl, hb⟩
  have HB2 := Lib.hid (HB.out.trans (hb.mono (by simp)))
  clear hb
  go_wp2
  go_ret
  exact ⟨rfl, HB2.out⟩
theorem of_nil27 (t m : Int) (w : World) : Calls Tryd.prog 17 #[.pointer none, .int .i64 t, .int .i64 m] w fun r w' => r = .returned (.slice none 0 0) ∧ Below w.heap.size w w' := by
  have HB := Lib.hid ((Below.refl w.heap.size w).alloc (Nat.le_refl _) (.cells #[.int .i64 t] 3))
  go_enter Tryd.func17, Tryd.ntmps17
  go_wp2_with fail
  refine (such_nil _ _ _ _).mono ?_
  rintro r w1 ⟨rfl, hb⟩
  have HB2 := Lib.hid (HB.out.trans (hb.mono (by simp)))
  clear hb
  go_wp2
  go_ret
  exact ⟨rfl, HB2.out⟩
theorem len_nil27 (w : World) : Calls Tryd.prog 19 #[.pointer none] w fun r w' => r = .returned (.int .i64 0) ∧ w = w' := by
  go_enter Tryd.func19, Tryd.ntmps19
  go_wp2
  go_ret
  exact ⟨rfl, rfl⟩
theorem lost_nil27 (w : World) : Calls Tryd.prog 18 #[.pointer none] w fun r w' => r = .returned (.int .i64 0) ∧ w = w' := by
  go_enter Tryd.func18, Tryd.ntmps18
  go_wp2
  go_ret
  exact ⟨rfl, rfl⟩

set_option maxRecDepth 100000 in
set_option maxHeartbeats 1600000 in
theorem evtext_any (w : World) (hT : ∀ w', Below w.heap.size w w' → Tab10 w') (e : Ev) : Calls Tryd.prog 12 #[.agg #[.int .i64 e.t, .int .i64 e.k, .int .i64 e.i, .int .i64 e.r]] w fun r w' => r = .returned (.string (txE e)) ∧ Below w.heap.size w w' := by
  obtain ⟨et, ek, ei, er⟩ := e
  have HT := Lib.hid hT
  have Mq := Lib.hid ((Mst.start w).new 30 #[.int .i64 et, .int .i64 ek, .int .i64 ei, .int .i64 er])
  have hck := fun w' => evcheck_any et ek ei er w'
  obtain ⟨ck, hc⟩ : ∃ v, evC et ek ei er = v := ⟨_, rfl⟩
  simp only [hc] at hck
  have HCK := Lib.hid hck
  have HC := Lib.hid hc
  have HCE := Lib.hid (show ∀ w' bl, Mst w w' ((w.heap.size, 30, #[.int .i64 et, .int .i64 ek, .int .i64 ei, .int .i64 er]) :: bl) [] → w'.cell? ⟨w.heap.size, 0, none⟩ = some (.int .i64 et) ∧ w'.cell? ⟨w.heap.size, 1, none⟩ = some (.int .i64 ek) ∧ w'.cell? ⟨w.heap.size, 2, none⟩ = some (.int .i64 ei) ∧ w'.cell? ⟨w.heap.size, 3, none⟩ = some (.int .i64 er) from fun w' bl h => ⟨(h.blk []).cell 0, (h.blk []).cell 1, (h.blk []).cell 2, (h.blk []).cell 3⟩)
  obtain ⟨c0, c1, c2, c3⟩ := HCE.out _ _ Mq.out
  clear hT hck hc
  go_enter Tryd.func12, Tryd.ntmps12
  go_wp2_with fail
  refine (HCK.out _).mono ?_
  rintro r w1 ⟨rfl, hb⟩
  have Mq := Lib.hid (Mq.out.below hb)
  clear hb c0 c1 c2 c3
  by_cases h0 : ck = 0
  · subst h0
    have hsp := evC_split et ek ei er 0 HC.out
    have hb5 : 0 ≤ et ∧ et ≤ 1073741824 ∧ 0 ≤ ek ∧ ek < 5 ∧ 1 ≤ ei ∧ ei ≤ 65535 ∧ 0 ≤ er ∧ er < 8 := by
      rcases hsp with ⟨_, h⟩ | ⟨_, _, h⟩ | ⟨k1, k2, (⟨_, h⟩ | ⟨_, _, h⟩ | ⟨_, _, _, h⟩ | ⟨_, _, _, _, h⟩ | ⟨q0, q1, q2, q3, (⟨_, h⟩ | ⟨_, _, h⟩ | ⟨h1, h2, _⟩)⟩)⟩
      all_goals first | cases h | exact ⟨q0, q1, k1, k2, q2, q3, h1, h2⟩
    obtain ⟨t0, t1, k0, k1, i0, i1, r0, r1⟩ := hb5
    obtain ⟨K, rfl⟩ := Int.eq_ofNat_of_zero_le k0
    have HTX := Lib.hid (show txE ⟨et, (K : Int), ei, er⟩ = if K = 4 then txB et K ei ++ txR er else txB et K ei by
      unfold txE
      rw [if_pos (show Ev.chk ⟨et, (K : Int), ei, er⟩ = 0 from HC.out)]
      by_cases h : K = 4
      · rw [if_pos h, if_pos (by simp only; omega)]
      · rw [if_neg h, if_neg (by simp only; omega)])
    obtain ⟨a0, ha0⟩ : ∃ a, itB et = a := ⟨_, rfl⟩
    obtain ⟨a2, ha2⟩ : ∃ a, wdB K = a := ⟨_, rfl⟩
    obtain ⟨a4, ha4⟩ : ∃ a, itB ei = a := ⟨_, rfl⟩
    obtain ⟨a6, ha6⟩ : ∃ a, itB er = a := ⟨_, rfl⟩
    have s0 : a0.size ≤ 21 := by rw [← ha0]; exact itB_size (by omega) (by omega)
    have s2 : a2.size ≤ 5 := by rw [← ha2]; exact wdB_size K
    have s4 : a4.size ≤ 21 := by rw [← ha4]; exact itB_size (by omega) (by omega)
    have s6 : a6.size ≤ 21 := by rw [← ha6]; exact itB_size (by omega) (by omega)
    obtain ⟨add1, z1⟩ := str_add (b := spS) s0 (show spS.size ≤ 1 by decide) (by decide)
    obtain ⟨add2, z2⟩ := str_add z1 s2 (by decide)
    obtain ⟨add3, z3⟩ := str_add (b := spS) z2 (show spS.size ≤ 1 by decide) (by decide)
    obtain ⟨add4, z4⟩ := str_add z3 s4 (by decide)
    obtain ⟨add5, z5⟩ := str_add (a := spS) (show spS.size ≤ 1 by decide) s6 (by decide)
    obtain ⟨add6, z6⟩ := str_add z4 z5 (by decide)
    have HX := Lib.hid (show txB et K ei = a0 ++ spS ++ a2 ++ spS ++ a4 by unfold txB; rw [ha0, ha4, show ((K : Int)).toNat = K by omega, ha2])
    have HXR := Lib.hid (show txR er = spS ++ a6 by unfold txR; rw [ha6])
    obtain ⟨b1, hb1⟩ : ∃ b, a0 ++ spS = b := ⟨_, rfl⟩
    obtain ⟨b2, hb2⟩ : ∃ b, b1 ++ a2 = b := ⟨_, rfl⟩
    obtain ⟨b3, hb3⟩ : ∃ b, b2 ++ spS = b := ⟨_, rfl⟩
    obtain ⟨b4, hb4⟩ : ∃ b, b3 ++ a4 = b := ⟨_, rfl⟩
    obtain ⟨b5, hb5⟩ : ∃ b, spS ++ a6 = b := ⟨_, rfl⟩
    obtain ⟨b6, hb6⟩ : ∃ b, b4 ++ b5 = b := ⟨_, rfl⟩
    rw [hb1] at add1 add2 add3 add4 add6 HX
    rw [hb2] at add2 add3 add4 add6 HX
    rw [hb3] at add3 add4 add6 HX
    rw [hb4] at add4 add6 HX
    rw [hb5] at add5 add6 HXR
    rw [hb6] at add6
    have H6 := Lib.hid hb6
    have HI0 := Lib.hid (show ∀ w', Tab10 w' → Calls Tryd.prog 9 #[.int .i64 et] w' fun e w2 => e = .returned (.string a0) ∧ Below w'.heap.size w' w2 from fun w' h => by have := itoa_any et (by omega) (by omega) w' h; rw [ha0] at this; exact this)
    have HI4 := Lib.hid (show ∀ w', Tab10 w' → Calls Tryd.prog 9 #[.int .i64 ei] w' fun e w2 => e = .returned (.string a4) ∧ Below w'.heap.size w' w2 from fun w' h => by have := itoa_any ei (by omega) (by omega) w' h; rw [ha4] at this; exact this)
    have HI6 := Lib.hid (show ∀ w', Tab10 w' → Calls Tryd.prog 9 #[.int .i64 er] w' fun e w2 => e = .returned (.string a6) ∧ Below w'.heap.size w' w2 from fun w' h => by have := itoa_any er (by omega) (by omega) w' h; rw [ha6] at this; exact this)
    have HW := Lib.hid (fun w' => evword_yes K (by omega) a2 ha2 w')
    have K0 := Lib.hid (HCE.out _ _ Mq.out.drew)
    clear hsp ha0 ha2 ha4 ha6 s0 s2 s4 s6 z1 z2 z3 z4 z5 z6 hb1 hb2 hb3 hb4 hb5 hb6 t0 t1 i0 i1 r0 r1
    go_upto_region 3 with fail
    refine wp_region_held_drew (S := fun w' => w'.cell? ⟨w.heap.size, 0, none⟩ = some (.int .i64 et) ∧ w'.cell? ⟨w.heap.size, 1, none⟩ = some (.int .i64 (K : Int)) ∧ w'.cell? ⟨w.heap.size, 2, none⟩ = some (.int .i64 ei) ∧ w'.cell? ⟨w.heap.size, 3, none⟩ = some (.int .i64 er)) (by kernel_rfl) ?_ (fun hHeld => ?_)
    · exact K0.out
    generalize hw7 : World.drew _ = w7 at hHeld ⊢
    have Mq := Lib.hid (Mq.out.drew.toV hw7 rfl)
    clear hw7
    refine wpAnyH_take (i := 0) (v := ?_) rfl (by kernel_rfl) (by kernel_rfl) (by kernel_rfl) (fun _ _ _ h => h) (Or.inl ⟨by rfl, ?_⟩) (by assumption) ?_
    rotate_left
    · intro w hSw; (try dsimp only at hSw); go_split_ands; go_simp; with_reducible rfl
    change wpAnyH _ _ _ _ _ _ _ (Act.put _ (some 7) _) _
    simp only [Act.put, List.setIfInBounds_toArray, List.set_cons_zero, List.set_cons_succ, Array.toArray_toList]
    refine wpAnyH_take (i := 1) (v := ?_) rfl (by kernel_rfl) (by kernel_rfl) (by kernel_rfl) (fun _ _ _ h => h) (Or.inl ⟨by rfl, ?_⟩) (by assumption) ?_
    rotate_left
    · intro w hSw; (try dsimp only at hSw); go_split_ands; go_simp; with_reducible rfl
    change wpAnyH _ _ _ _ _ _ _ (Act.put _ (some 8) _) _
    simp only [Act.put, List.setIfInBounds_toArray, List.set_cons_zero, List.set_cons_succ, Array.toArray_toList]
    refine wpAnyH_take (i := 4) (v := ?_) rfl (by kernel_rfl) (by kernel_rfl) (by kernel_rfl) (fun _ _ _ h => h) (Or.inl ⟨by rfl, ?_⟩) (by assumption) ?_
    rotate_left
    · intro w hSw; (try dsimp only at hSw); go_split_ands; go_simp; with_reducible rfl
    change wpAnyH _ _ _ _ _ _ _ (Act.put _ (some 11) _) _
    simp only [Act.put, List.setIfInBounds_toArray, List.set_cons_zero, List.set_cons_succ, Array.toArray_toList]
    refine wpAnyH_take (i := 5) (v := ?_) rfl (by kernel_rfl) (by kernel_rfl) (by kernel_rfl) (fun _ _ _ h => h) (Or.inl ⟨by rfl, ?_⟩) (by assumption) ?_
    rotate_left
    · intro w hSw; (try dsimp only at hSw); go_split_ands; go_simp; with_reducible rfl
    change wpAnyH _ _ _ _ _ _ _ (Act.put _ (some 12) _) _
    simp only [Act.put, List.setIfInBounds_toArray, List.set_cons_zero, List.set_cons_succ, Array.toArray_toList]
    refine wpAnyH_take (i := 9) (v := ?_) rfl (by kernel_rfl) (by kernel_rfl) (by kernel_rfl) (fun _ _ _ h => h) (Or.inl ⟨by rfl, ?_⟩) (by assumption) ?_
    rotate_left
    · intro w hSw; (try dsimp only at hSw); go_split_ands; go_simp; with_reducible rfl
    change wpAnyH _ _ _ _ _ _ _ (Act.put _ (some 16) _) _
    simp only [Act.put, List.setIfInBounds_toArray, List.set_cons_zero, List.set_cons_succ, Array.toArray_toList]
    refine wpAnyH_take (i := 10) (v := ?_) rfl (by kernel_rfl) (by kernel_rfl) (by kernel_rfl) (fun _ _ _ h => h) (Or.inl ⟨by rfl, ?_⟩) (by assumption) ?_
    rotate_left
    · intro w hSw; (try dsimp only at hSw); go_split_ands; go_simp; with_reducible rfl
    change wpAnyH _ _ _ _ _ _ _ (Act.put _ (some 17) _) _
    simp only [Act.put, List.setIfInBounds_toArray, List.set_cons_zero, List.set_cons_succ, Array.toArray_toList]
    refine wpAnyH_ready (rs := [2]) (by kernel_rfl) (by simp) ?_
    refine (AllReadyH.cons rfl (fun K hK => ?_) AllReadyH.nil)
    go_simp
    (with_reducible refine (HI0.out _ (HT.out _ Mq.out.bel)).mono ?_); rintro r wq ⟨rfl, hb⟩; have Mq := Lib.hid (Mq.out.below hb); clear hb
    go_wp2_with fail
    refine hK.out _ _ (by exact HCE.out _ _ Mq.out) (fun hHeld => ?_)
    clear hK K
    refine wpAnyH_take (i := 3) (v := ?_) rfl (by kernel_rfl) (by kernel_rfl) (by kernel_rfl) (fun _ _ _ h => h) (Or.inl ⟨by rfl, ?_⟩) (by assumption) ?_
    rotate_left
    · intro w hSw; (try dsimp only at hSw); go_split_ands; go_simp; with_reducible rfl
    change wpAnyH _ _ _ _ _ _ _ (Act.put _ (some 10) _) _
    simp only [Act.put, List.setIfInBounds_toArray, List.set_cons_zero, List.set_cons_succ, Array.toArray_toList]
    refine wpAnyH_ready (rs := [6]) (by kernel_rfl) (by simp) ?_
    refine (AllReadyH.cons rfl (fun K hK => ?_) AllReadyH.nil)
    go_simp
    (with_reducible refine (HW.out _).mono ?_); rintro r wq ⟨rfl, rfl⟩
    go_wp2_with fail
    refine hK.out _ _ (by exact HCE.out _ _ Mq.out) (fun hHeld => ?_)
    clear hK K
    refine wpAnyH_take (i := 7) (v := ?_) rfl (by kernel_rfl) (by kernel_rfl) (by kernel_rfl) (fun _ _ _ h => h) (Or.inl ⟨by rfl, ?_⟩) (by assumption) ?_
    rotate_left
    · intro w hSw; (try dsimp only at hSw); go_split_ands; go_simp; with_reducible rfl
    change wpAnyH _ _ _ _ _ _ _ (Act.put _ (some 14) _) _
    simp only [Act.put, List.setIfInBounds_toArray, List.set_cons_zero, List.set_cons_succ, Array.toArray_toList]
    refine wpAnyH_take (i := 8) (v := ?_) rfl (by kernel_rfl) (by kernel_rfl) (by kernel_rfl) (fun _ _ _ h => h) (Or.inl ⟨by rfl, ?_⟩) (by assumption) ?_
    rotate_left
    · intro w hSw; (try dsimp only at hSw); go_split_ands; go_simp; with_reducible rfl
    change wpAnyH _ _ _ _ _ _ _ (Act.put _ (some 15) _) _
    simp only [Act.put, List.setIfInBounds_toArray, List.set_cons_zero, List.set_cons_succ, Array.toArray_toList]
    refine wpAnyH_ready (rs := [11]) (by kernel_rfl) (by simp) ?_
    refine (AllReadyH.cons rfl (fun K hK => ?_) AllReadyH.nil)
    go_simp
    (with_reducible refine (HI4.out _ (HT.out _ Mq.out.bel)).mono ?_); rintro r wq ⟨rfl, hb⟩; have Mq := Lib.hid (Mq.out.below hb); clear hb
    go_wp2_with fail
    refine hK.out _ _ (by exact HCE.out _ _ Mq.out) (fun hHeld => ?_)
    clear hK K
    refine wpAnyH_take (i := 12) (v := ?_) rfl (by kernel_rfl) (by kernel_rfl) (by kernel_rfl) (fun _ _ _ h => h) (Or.inl ⟨by rfl, ?_⟩) (by assumption) ?_
    rotate_left
    · intro w hSw; (try dsimp only at hSw); go_split_ands; go_simp; with_reducible rfl
    change wpAnyH _ _ _ _ _ _ _ (Act.put _ (some 19) _) _
    simp only [Act.put, List.setIfInBounds_toArray, List.set_cons_zero, List.set_cons_succ, Array.toArray_toList]
    refine wpAnyH_take (i := 13) (v := ?_) rfl (by kernel_rfl) (by kernel_rfl) (by kernel_rfl) (fun _ _ _ h => h) (Or.inl ⟨by rfl, ?_⟩) (by assumption) ?_
    rotate_left
    · intro w hSw; (try dsimp only at hSw); go_split_ands; go_simp; with_reducible rfl
    change wpAnyH _ _ _ _ _ _ _ (Act.put _ (some 3) _) _
    simp only [Act.put, List.setIfInBounds_toArray, List.set_cons_zero, List.set_cons_succ, Array.toArray_toList]
    refine wpAnyH_done (by kernel_rfl) ?_ _
    clear hHeld K0
    obtain ⟨c0, c1, c2, c3⟩ := HCE.out _ _ Mq.out
    by_cases h4 : K = 4
    · subst h4
      have c1' : wq.cell? ⟨w.heap.size, 1, none⟩ = some (.int .i64 4) := c1
      clear c1
      go_wp2_with fail
      refine (HI6.out _ (HT.out _ Mq.out.bel)).mono ?_
      rintro r w3 ⟨rfl, hb⟩
      have Mq := Lib.hid (Mq.out.below hb)
      clear hb c0 c1' c2 c3
      go_wp2
      go_ret
      refine ⟨?_, Mq.out.bel⟩
      rw [HTX.out]; simp only [if_true]
      have h1 := HX.out
      have h2 := HXR.out
      rw [h1, h2, H6.out]
      rfl
    · have f1 : ((K : Int) == 4) = false := by simp; omega
      have HF := Lib.hid h4
      clear h4
      go_wp2
      go_ret
      refine ⟨?_, Mq.out.bel⟩
      rw [HTX.out, if_neg HF.out, HX.out]
      rfl
  · have HTX := Lib.hid (show txE ⟨et, ek, ei, er⟩ = ⟨#[]⟩ by unfold txE; rw [if_neg (by simpa [Ev.chk, HC.out] using h0)])
    have j1 : (ck != 0) = true := by simpa using h0
    clear h0
    go_wp2
    go_ret
    exact ⟨by rw [HTX.out]; rfl, Mq.out.bel⟩
end Go.Proofs.YtnopmdhjamkoaaaDoor
