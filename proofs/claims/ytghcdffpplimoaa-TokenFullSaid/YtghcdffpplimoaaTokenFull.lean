/-
  vigillaw06.TokenFull returns true, whatever it is called with. Conditions: none.
-/
import Derived.Test.YtghcdffpplimoaaTk7
import Derived.Test.YtghcdffpplimoaaMod
namespace Go.Proofs.Ytghcdffpplimoaa
set_option linter.unusedVariables false
set_option linter.unusedSimpArgs false
open Go.RowKit

abbrev key16 : List UInt8 := [48, 49, 50, 51, 52, 53, 54, 55, 56, 57, 97, 98, 99, 100, 101, 102]
/-- A mint that has issued k tokens. -/
def FuR (W : World) (g gk : Nat) (kb : List UInt8) (k : Nat) (w : World) : Prop := ∃ cs : List C4, cs.length = k ∧ MtX W [] [] g gk kb cs w
set_option maxRecDepth 100000 in
set_option maxHeartbeats 3200000 in
theorem tokenFull_main (W : World) (id0 ex0 : Int) :
    Calls Try.prog 6 #[.int .i64 id0, .int .i64 ex0] W fun e W' => e = .returned (.bool true) ∧ Below W.heap.size W W' := by
  obtain ⟨id, hT, hT1, hT9⟩ := mod_one id0 65535 (by omega) (by omega)
  obtain ⟨ex, hU, hU1, hU9⟩ := mod_any ex0 1000 (by omega) (by omega)
  have HTT := Lib.hid hT
  have HUU := Lib.hid hU
  obtain ⟨kb, hkb⟩ : ∃ kb, key16 = kb := ⟨_, rfl⟩
  have hkl : kb.length = 16 := by rw [← hkb]; rfl
  have HN := Lib.hid (show ∀ w' A, Below W.heap.size W w' → RB w' w'.heap.size A kb → Calls Try.prog 34 #[.slice A 16 16] w' fun e w2 => ∃ g gk, e = .returned (.tuple #[.pointer (some ⟨g, 0, none⟩), .int .i64 0]) ∧ MtX W [] [] g gk kb [] w2 from fun w' A hb hr => by
    have := tnew_any W w' [] [] ((Mst.start W).below hb) A 16 kb hr (by omega) (by omega)
    rw [hkl] at this
    exact this)
  have HIS := Lib.hid (show ∀ w' g gk k, k < 256 → FuR W g gk kb k w' → ∃ S : List UInt8, S.length = 32 ∧ Calls Try.prog 38 #[.pointer (some ⟨g, 0, none⟩), .int .i64 id, .int .i64 ex, .slice none 0 0] w' fun e w2 => e = .returned (.tuple #[.agg (tkc id 0 ex ((k : Int) + 1) S), .int .i64 0]) ∧ FuR W g gk kb (k + 1) w2 from fun w' g gk k hk ⟨cs, h1, h2⟩ => by
    have := issue_ok W w' [] [] g gk kb (by omega) cs h2 (by omega) id ex [] none 0 (Rd.nil_ _ _ _ _) (by decide) rfl ⟨⟨by omega, by omega⟩, ⟨by decide, by decide⟩, ⟨by omega, by omega⟩, by omega, by omega⟩
    rw [show ((maskN [] : Nat) : Int) = 0 from rfl, h1] at this
    refine ⟨secB kb id 0 ex ((k : Int) + 1), rfl, this.mono ?_⟩
    rintro e w2 ⟨rfl, m⟩
    exact ⟨rfl, cs ++ [_], by rw [List.length_append, h1]; rfl, m⟩)
  have HIF := Lib.hid (show ∀ w' g gk, FuR W g gk kb 256 w' → Calls Try.prog 38 #[.pointer (some ⟨g, 0, none⟩), .int .i64 id, .int .i64 ex, .slice none 0 0] w' fun e w2 => e = .returned (.tuple #[.agg Y36, .int .i64 6]) ∧ FuR W g gk kb 256 w2 from fun w' g gk ⟨cs, h1, h2⟩ =>
    (issue_full W w' [] [] g gk kb cs h2 h1 id ex [] none 0 (Rd.nil_ _ _ _ _) (by decide) rfl).mono fun e w2 ⟨he, m⟩ => ⟨he, cs, h1, m⟩)
  have HCO := Lib.hid (show ∀ w' g gk, FuR W g gk kb 256 w' → Calls Try.prog 39 #[.pointer (some ⟨g, 0, none⟩)] w' fun e w2 => e = .returned (.int .i64 256) ∧ w' = w2 from fun w' g gk ⟨cs, h1, h2⟩ => by
    have := count_any6 W w' [] [] g gk kb cs h2
    rw [h1] at this
    exact this)
  have HFB := Lib.hid (show ∀ w' w2 g gk k, FuR W g gk kb k w' → Below w'.heap.size w' w2 → FuR W g gk kb k w2 from fun w' w2 g gk k ⟨cs, h1, h2⟩ hb => ⟨cs, h1, h2.below hb⟩)
  have HBE := Lib.hid (show ∀ w' g gk k, FuR W g gk kb k w' → Below W.heap.size W w' from fun w' g gk k ⟨cs, h1, h2⟩ => h2.bel)
  have HKB := Lib.hid hkb
  have HND := Lib.hid (fun w' => issue_nil w' id ex none 0 0)
  have HFU0 := Lib.hid (show ∀ w' g gk, MtX W [] [] g gk kb [] w' → FuR W g gk kb 0 w' from fun w' g gk m => ⟨[], rfl, m⟩)
  clear hT hU hkb hkl
  go_enter Try.func6, Try.ntmps6
  go_wp2_with (first | ((with_reducible refine wpList_markL rfl _ _ rfl 16 16 _ _ rfl Try.underlying26 Try.underlying5 key16 rfl ?_); intro w2 hb hr; rw [HKB.out] at hr; have HB2 := Lib.hid hb; have HR2 := Lib.hid hr; clear hb hr))
  refine (HN.out _ _ HB2.out HR2.out).mono ?_
  rintro e w3 ⟨g, gk, rfl, m⟩
  have HF := Lib.hid (HFU0.out _ _ _ m)
  clear m HB2 HR2
  go_wp2_with fail
  rw [HTT.out, HUU.out]
  go_loopg [7] 256 (fun gg s7 wr => ∃ k : Nat, k + gg = 256 ∧ s7 = .int .i64 k ∧ FuR W g gk kb k wr)
  case atStart => exact ⟨0, by omega, rfl, HF.out⟩
  case round =>
    obtain ⟨k, hk, rfl, hf⟩ := hrel
    by_cases hlt : k < 256
    · obtain ⟨S, hSl, hc⟩ := HIS.out _ _ _ _ hlt hf
      have HC := Lib.hid hc
      have SL := Lib.hid hSl
      have i1 : (k : Int) < 256 := by omega
      have i2 : (0 : Int) ≤ k := by omega
      clear hc hf hSl
      go_wp2_with fail
      refine HC.out.mono ?_
      rintro e w4 ⟨rfl, hf⟩
      have HF := Lib.hid hf
      have Mz := Lib.hid (Mst.setRow (bl := []) [] ((Mst.start w4).new 78 Y36) (tkc id 0 ex ((k : Int) + 1) S))
      clear hf HC
      go_upto_region 9 with (first | refine wpList_store_row rfl _ _ _ rfl w4.heap.size (tkc id 0 ex ((k : Int) + 1) S) rfl rfl 78 _ (Bk.mk_ _ _ _) (info_tok SL.out) (y36_k SL.out) (tkc_one _ _ _ _ _) ?_)
      generalize hw5 : World.setRow _ _ _ = w5
      have Mz := Lib.hid (Mz.out.toV hw5 rfl)
      have HF := Lib.hid (HFB.out _ _ _ _ _ HF.out Mz.out.bel)
      have k3 := (tkc_cells (Mz.out.blk [])).2.2.2
      clear hw5
      go_wp2_with fail
      go_roundg (256 - (k + 1))
      case measure => exact meas hk hlt
      case rel => exact ⟨k + 1, meas2 hlt, by go_num, HF.out⟩
    · obtain rfl : k = 256 := by omega
      have HF := Lib.hid hf
      clear hf hk hlt
      go_wp2_with fail
      refine (HIF.out _ _ _ HF.out).mono ?_
      rintro e w4 ⟨rfl, hf⟩
      have HF := Lib.hid hf
      have Mz := Lib.hid (Mst.setRow (bl := []) [] ((Mst.start w4).new 78 Y36) Y36)
      clear hf
      go_upto_region 12 with (first | refine wpList_store_row rfl _ _ _ rfl w4.heap.size Y36 rfl rfl 78 _ (Bk.mk_ _ _ _) info_y36 rfl y36_one ?_)
      generalize hw5 : World.setRow _ _ _ = w5
      have Mz := Lib.hid (Mz.out.toV hw5 rfl)
      have HF := Lib.hid (HFB.out _ _ _ _ _ HF.out Mz.out.bel)
      clear hw5 Mz
      go_wp2_with fail
      refine (HND.out _).mono ?_
      rintro e w6 ⟨rfl, hb⟩
      have HF := Lib.hid (HFB.out _ _ _ _ _ HF.out hb)
      have Mz := Lib.hid (Mst.setRow (bl := []) [] ((Mst.start w6).new 78 Y36) Y36)
      clear hb
      go_upto_region 14 with (first | refine wpList_store_row rfl _ _ _ rfl w6.heap.size Y36 rfl rfl 78 _ (Bk.mk_ _ _ _) info_y36 rfl y36_one ?_)
      generalize hw5 : World.setRow _ _ _ = w7
      have Mz := Lib.hid (Mz.out.toV hw5 rfl)
      have HF := Lib.hid (HFB.out _ _ _ _ _ HF.out Mz.out.bel)
      clear hw5 Mz
      go_wp2_with fail
      refine (mfind_nil _ _).mono ?_
      rintro e w8 ⟨rfl, hb⟩
      have HF := Lib.hid (HFB.out _ _ _ _ _ HF.out hb)
      have HF := Lib.hid (HFB.out _ _ _ _ _ HF.out ((Below.refl _ _).alloc (Nat.le_refl _) (.cells #[.int .i64 0, .int .i64 0, .int .i64 0, .int .i64 0] 30)))
      clear hb
      go_wp2_with fail
      refine (known06 _).mono ?_
      rintro e w9 ⟨rfl, hb⟩
      have HF := Lib.hid (HFB.out _ _ _ _ _ HF.out hb)
      clear hb
      go_wp2_with fail
      refine (HCO.out _ _ _ HF.out).mono ?_
      rintro e w10 ⟨rfl, rfl⟩
      go_wp2_with fail
      refine (count_nil6 _).mono ?_
      rintro e w10 ⟨rfl, rfl⟩
      go_wp2_with fail
      refine (master_nil _).mono ?_
      rintro e w10 ⟨rfl, rfl⟩
      go_wp2
      go_ret
      exact ⟨rfl, HBE.out _ _ _ _ HF.out⟩
theorem contract_tokenFull (W : World) (v0 v1 : Value) (a0 : ∃ z, v0 = .int .i64 z ∧ in64 z) (a1 : ∃ z, v1 = .int .i64 z ∧ in64 z) :
    Calls Try.prog 6 #[v0, v1] W fun e W' => e = .returned (.bool true) ∧ Below W.heap.size W W' := by
  obtain ⟨x, rfl, hx⟩ := a0
  obtain ⟨y, rfl, hy⟩ := a1
  exact tokenFull_main W x y
end Go.Proofs.Ytghcdffpplimoaa
