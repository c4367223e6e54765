/-
  vigillaw04.WireNil returns true, whatever it is called with. Conditions: none but that the argument is a field that can be read.
-/
import Derived.Test.YthnaobolmgcclaaTo04
import Derived.Test.YthnaobolmgcclaaWSame
import Derived.Test.YthnaobolmgcclaaKn04
import Derived.Test.YthnaobolmgcclaaRd4
import Derived.Test.YthnaobolmgcclaaOpen3
namespace Go.Proofs.Ythnaobolmgcclaa
set_option linter.unusedVariables false
open Go.RowKit

theorem RrX.bel {W w : World} {xb : Bl} {xr : List Ro} {bl : Bl} {ow : List Ro} {g : Nat} {st : RS} (h : RrX W xb xr bl ow g st w) : Below W.heap.size W w := by
  obtain ⟨A, c, h1, _⟩ := h
  exact h1.bel
theorem Balc {w w1 : World} {o : Obj} (h : Below (w.alloc o).heap.size (w.alloc o) w1) : Below w.heap.size w w1 := ((Below.refl _ _).alloc (Nat.le_refl _) _).trans (h.mono (by simp))
theorem nil_nV : nV (newR [0, 1, 7]) 4 = 0 := by decide
theorem nil_nS : nS (newR [0, 1, 7]) 4 = ([], 13) := by decide
def wnB (s n : Int) (A : Option Addr) (L c g : Nat) : Bl := [(g, 32, #[.int .i64 s, .int .i64 n, .slice A L c])]

set_option maxRecDepth 100000 in
set_option maxHeartbeats 1600000 in
theorem wireNil_main (hkn : ∀ (w : World), Calls Try.prog 26 #[] w fun e w' => e = .returned (.bool true) ∧ Below w.heap.size w w')
    (W : World) (s n : Int) (A : Option Addr) (c : Nat) (l : List UInt8) (hr : RB W W.heap.size A l) (hlc : l.length ≤ c) (hcm : c ≤ 9223372036854775807) :
    Calls Try.prog 6 #[.agg #[.int .i64 s, .int .i64 n, .slice A l.length c]] W fun e W' => e = .returned (.bool true) ∧ Below W.heap.size W W' := by
  obtain ⟨g, hg⟩ : ∃ g : Fd, g = ⟨s, n, A, c, l⟩ := ⟨_, rfl⟩
  have h1 : ∀ (w : World) (bl : Bl) (ow : List Ro) (hM : Mst W w bl ow) (t : TypeId) (b : Nat) (hb : b = w.heap.size), Calls Try.prog 15 #[.slice (some ⟨b, 0, none⟩) 1 1] (w.alloc (.cells #[.int .i64 s, .int .i64 n, .slice A l.length c] t)) fun e w' => ∃ v, e = .returned v ∧ ToRel W ((b, t, #[.int .i64 s, .int .i64 n, .slice A l.length c]) :: bl) ow [⟨s, n, A, c, l⟩] 1 v w' := by
    rintro w bl ow hM t b rfl
    exact to04_any W (w.alloc (.cells #[.int .i64 s, .int .i64 n, .slice A l.length c] t)) _ ow (hM.new t #[.int .i64 s, .int .i64 n, .slice A l.length c]) [⟨s, n, A, c, l⟩] (some ⟨w.heap.size, 0, none⟩) 1 (srcOne ⟨s, n, A, c, l⟩ c)
      (by intro x hx; simp only [List.mem_singleton] at hx; subst hx; exact ⟨Src.old hr, hlc, hcm⟩) (by simp) 1 (by simp)
  obtain ⟨L, hL⟩ : ∃ L, l.length = L := ⟨_, rfl⟩
  rw [hL] at h1 ⊢
  have H1 := Lib.hid h1
  have HKN := Lib.hid hkn
  have M0 := Lib.hid ((Mst.start W).new 32 #[.int .i64 s, .int .i64 n, .slice A L c])
  clear h1 hkn hr hlc hcm hL hg g
  go_enter Try.func6, Try.ntmps6
  go_wp2_with fail
  refine (out_nil _).mono ?_
  rintro e w1 ⟨rfl, rfl⟩
  go_wp2_with fail
  refine (H1.out _ _ _ M0.out _ _ (by simp)).mono ?_
  rintro e w1 ⟨v, rfl, fs, hfl, _, m⟩
  obtain ⟨A1, c1, rfl, _⟩ := own_form (Mst.row [] m)
  have M1 := Lib.hid (Mst.alloc m (.cells #[.int .u8 0, .int .u8 1, .int .u8 7] 5))
  clear m hfl
  go_wp2_with fail
  refine (new_any W _ _ _ M1.out _ _ [0, 1, 7] (Rd.new1 (size := 1) (n := 3) w1 _ _ rfl) (by simp)).mono ?_
  rintro e w2 ⟨g, A2, c2, rfl, _, r2⟩
  have R2 := Lib.hid r2
  clear r2
  go_wp2_with fail
  refine (rdnum_any W _ _ _ _ _ g _ R2.out 4).mono ?_
  rintro e w3 ⟨rfl, r3⟩
  rw [nil_nS] at r3
  rw [nil_nV]
  have R3 := Lib.hid r3
  clear r3
  go_wp2_with fail
  refine (HKN.out _).mono ?_
  rintro e w4 ⟨rfl, b4⟩
  have R4 := Lib.hid (R3.out.below b4)
  clear b4
  go_wp2_with fail
  refine (put_nil _ _ _ _ rfl _).mono ?_
  rintro e w5 ⟨rfl, rfl⟩
  go_wp2_with fail
  refine (numbers_nil _ _ 1 (by simp [go_sem])).mono ?_
  rintro e w6 ⟨rfl, b6⟩
  have R6 := Lib.hid (R4.out.below (Balc b6))
  clear b6
  go_wp2_with fail
  refine (wbytes_nil _ _ none 0 0 (by simp [go_sem])).mono ?_
  rintro e w7 ⟨rfl, b7⟩
  have r7 := R6.out.below (Balc b7)
  have d0 := (r7.blk (x := (W.heap.size, 32, #[.int .i64 s, .int .i64 n, .slice A L c])) (by simp)).cell 0
  simp at d0
  have R7 := Lib.hid r7
  clear b7 r7
  go_wp2_with fail
  refine (get_nil _ _).mono ?_
  rintro e w8 ⟨rfl, b8⟩
  have R8 := Lib.hid (R7.out.below b8)
  clear b8 d0
  go_wp2_with fail
  refine (wsame_zero _).mono ?_
  rintro e w9 ⟨rfl, b9⟩
  have R9 := Lib.hid (R8.out.below b9)
  clear b9
  go_wp2_with fail
  refine (rdnum_nil _).mono ?_
  rintro e w10 ⟨rfl, b10⟩
  have R10 := Lib.hid (R9.out.below b10)
  clear b10
  go_wp2_with fail
  refine (rdbytes_nil _ _).mono ?_
  rintro e w11 ⟨rfl, b11⟩
  have R11 := Lib.hid (R10.out.below b11)
  clear b11
  go_wp2_with fail
  refine (rdbytes_nil _ _).mono ?_
  rintro e w12 ⟨rfl, b12⟩
  have R12 := Lib.hid (R11.out.below b12)
  clear b12
  go_wp2_with fail
  refine (left_nil _).mono ?_
  rintro e w13 ⟨rfl, rfl⟩
  go_wp2_with fail
  refine (err_nil _).mono ?_
  rintro e w14 ⟨rfl, rfl⟩
  go_wp2_with fail
  refine (end_nil _).mono ?_
  rintro e w15 ⟨rfl, rfl⟩
  go_wp2_with fail
  refine (err_any W _ _ _ _ _ g _ R12.out).mono ?_
  rintro e w16 ⟨rfl, rfl⟩
  have HB := Lib.hid R12.out.bel
  go_wp2_with fail
  go_ret
  exact ⟨rfl, HB.out⟩

theorem contract_wireNil (W : World) (v0 : Value) (a0 : ∃ (s n : Int) (x : Rw), v0 = .agg #[.int .i64 s, .int .i64 n, x.v] ∧ in64 s ∧ in64 n ∧ x.ok .u8 W) :
    Calls Try.prog 6 #[v0] W fun e W' => e = .returned (.bool true) ∧ Below W.heap.size W W' := by
  obtain ⟨s, n, x, rfl, _, _, ok⟩ := a0
  obtain ⟨l, h1, h2⟩ := bytes_of x.zs ok.wf
  have hrd := ok.rd
  have hle := ok.le
  have hcap := ok.cap
  rw [h1] at hrd
  unfold Rw.v
  rw [← h2] at hrd hle ⊢
  exact wireNil_main known04 W s n x.A x.c l (by show Rd W W.heap.size 1 x.A l.length (by8 l); exact hrd) hle (by unfold maxLen at hcap; omega)
end Go.Proofs.Ythnaobolmgcclaa
