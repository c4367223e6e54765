/- The laws' fields of layer 4: Of. -/
import Derived.Test.YthnaobolmgcclaaTo04
namespace Go.Proofs.Ythnaobolmgcclaa
set_option linter.unusedVariables false
open Go.RowKit

theorem el_rfield : El Try.prog 22 32 3 40 := El.of Try.underlying22 (z := .agg #[.int .i64 0, .int .i64 0, .slice none 0 0]) (by kernel_rfl) rfl (by decide)
theorem fcs_take_succ {fs : List Fd} {k : Nat} {f : Fd} (h : fs[k]? = some f) : fcs (fs.take (k + 1)) = fcs (fs.take k) ++ f.cs := by
  rw [List.take_add_one, h]
  exact fcs_snoc _ _

set_option maxRecDepth 100000 in
set_option maxHeartbeats 3200000 in
theorem of04_any (W w : World) (bl : Bl) (ow : List Ro) (hM : Mst W w bl ow) (fs : List Fd) (A : Option Addr) (c : Nat) (hfs : Src W bl ow 3 A fs.length (fcs fs)) (hn : fs.length ≤ 12) :
    Calls Try.prog 16 #[.slice A fs.length c] w fun e w' => ∃ v, e = .returned v ∧ Mst W w' bl (⟨32, 3, v, fs.length, fcs fs⟩ :: ow) := by
  have HM := Lib.hid hM
  have H1 := Lib.hid hfs
  clear hM hfs
  go_enter Try.func16, Try.ntmps16
  go_wp2_with fail
  go_loopg [3, 4] fs.length (fun gg s3 s4 wr => ∃ k : Nat, k + gg = fs.length ∧ s4 = .int .i64 k ∧ Mst W wr bl (⟨32, 3, s3, k, fcs (fs.take k)⟩ :: ow))
  case atStart => exact ⟨0, by omega, rfl, HM.out.nilrow _ _⟩
  case round =>
    obtain ⟨k, hk, rfl, m⟩ := hrel
    by_cases hlt : k < fs.length
    · obtain ⟨f, hf⟩ : ∃ f, fs[k]? = some f := ⟨_, List.getElem?_eq_getElem hlt⟩
      have hsub : ∀ y ∈ ow, y ∈ (⟨32, 3, u3, k, fcs (fs.take k)⟩ : Ro) :: ow := fun y hy => List.mem_cons_of_mem _ hy
      obtain ⟨b, o, rfl, hbl, d0, d1, d2⟩ := srcF m (H1.out.sub (fun _ h => h) hsub) hf
      obtain ⟨L, hL⟩ : ∃ L, f.l.length = L := ⟨_, rfl⟩
      have HNX := Lib.hid (show fcs (fs.take (k + 1)) = fcs (fs.take k) ++ [.int .i64 f.s, .int .i64 f.n, .slice f.A L f.c] by rw [fcs_take_succ hf, ← hL]; rfl)
      have HSRC := Lib.hid (fun (w' : World) (bl' : Bl) (ow' : List Ro) (hm : Mst W w' bl' ow') (h1 : ∀ x ∈ bl, x ∈ bl') (h2 : ∀ y ∈ ow, y ∈ ow') => show w'.cell? ⟨b, o + k * 3, none⟩ = some (.int .i64 f.s) ∧ w'.cell? ⟨b, o + k * 3 + 1, none⟩ = some (.int .i64 f.n) ∧ w'.cell? ⟨b, o + k * 3 + 2, none⟩ = some (.slice f.A L f.c) from by have := srcC hm (H1.out.sub h1 h2) hf; rw [hL] at this; exact this)
      rw [hL] at d2
      have M := Lib.hid m.drew
      have i1 : (k : Int) < (fs.length : Int) := by omega
      have i2 : (0 : Int) ≤ (k : Int) := by omega
      clear m hf hL
      go_wp2_with fail
      go_region_held3 (fun w' => w'.cell? ⟨b, o + k * 3, none⟩ = some (.int .i64 f.s) ∧ w'.cell? ⟨b, o + k * 3 + 1, none⟩ = some (.int .i64 f.n) ∧ w'.cell? ⟨b, o + k * 3 + 2, none⟩ = some (.slice f.A L f.c))
        (first | go_keep | (refine ⟨?_, ?_, ?_⟩ <;> assumption))
        (first
          | (refine step_appM rfl _ _ 22 rfl [] (Mst.alloc M.out _) el_rfield rfl _ _ 1 1 [.int .i64 f.s, .int .i64 f.n, .slice f.A L f.c] rfl (Rd.new1 _ #[.int .i64 f.s, .int .i64 f.n, .slice f.A L f.c] _ rfl) (one3 _ _ _ rfl rfl rfl) (by unfold maxLen; omega) (by omega) ?_; intro A3 c3 w3 s3; obtain ⟨q0, q1, q2⟩ := HSRC.out w3 _ _ s3 (fun _ h => h) (fun y hy => List.mem_cons_of_mem _ hy); have S3 := Lib.hid s3; clear s3))
      all_goals (
        go_wp2_with fail
        go_roundg (fs.length - (k + 1))
        case measure => exact (by omega)
        case rel => exact ⟨k + 1, by omega, by go_num, by rw [HNX.out]; exact S3.out⟩)
    · have hkN : k = fs.length := by omega
      have M : Hid (Mst W wr bl (⟨32, 3, u3, fs.length, fcs fs⟩ :: ow)) := by
        show Mst ..
        have : fs.take k = fs := List.take_of_length_le (by omega)
        rw [this, hkN] at m
        exact m
      clear m
      go_wp2_with fail
      go_ret
      exact ⟨_, rfl, M.out⟩
end Go.Proofs.Ythnaobolmgcclaa
