/- WindowNil: the walk of the law: a nil window takes nothing, a nil counter tells nothing. -/
import Derived.Test.YtidphalfafaniaaWinC
import Derived.Test.YtidphalfafaniaaWinK
namespace Go.Proofs.Ytidphalfafaniaa
open Go.RowKit

theorem look_nil (x y : Int) (w : World) : Calls Try.prog 29 #[.pointer none, .agg #[.int .i64 x, .int .i64 y]] w fun e w' => e = .returned (.int .i64 11) ∧ Below w.heap.size w w' := by
  go_enter Try.func29, Try.ntmps29
  go_wp2
  go_ret
  exact ⟨rfl, by repeat (first | exact Below.refl _ _ | (refine Below.alloc ?_ (by simp) _))⟩

theorem take_nil (x y : Int) (w : World) : Calls Try.prog 15 #[.pointer none, .agg #[.int .i64 x, .int .i64 y]] w fun e w' => e = .returned (.int .i64 11) ∧ Below w.heap.size w w' := by
  go_enter Try.func15, Try.ntmps15
  go_wp2_with fail
  refine (look_nil _ _ _).mono ?_
  rintro e w1 ⟨rfl, hb⟩
  go_wp2
  go_ret
  exact ⟨rfl, ((Below.refl _ _).alloc (Nat.le_refl _) _).trans (hb.mono (by simp))⟩

theorem latest_nil (w : World) : Calls Try.prog 19 #[.pointer none] w fun e w' => e = .returned (.agg #[.int .i64 0, .int .i64 0]) ∧ Below w.heap.size w w' := by
  go_enter Try.func19, Try.ntmps19
  go_wp2
  refine bodyPost_ret (v := .agg #[.int .i64 0, .int .i64 0]) (by simp [results, Try.results19, go_sem]) rfl ⟨rfl, ?_⟩
  repeat (first | exact Below.refl _ _ | (refine Below.alloc ?_ (by simp) _))

theorem boot_nil (w : World) : Calls Try.prog 33 #[.pointer none] w fun e w' => e = .returned (.int .i64 0) ∧ Below w.heap.size w w' := by
  go_enter Try.func33, Try.ntmps33
  go_wp2
  go_ret
  exact ⟨rfl, by repeat (first | exact Below.refl _ _ | (refine Below.alloc ?_ (by simp) _))⟩

theorem next_nil (w : World) : Calls Try.prog 34 #[.pointer none] w fun e w' => e = .returned (.tuple #[.agg #[.int .i64 0, .int .i64 0], .int .i64 11]) ∧ Below w.heap.size w w' := by
  go_enter Try.func34, Try.ntmps34
  go_wp2
  refine bodyPost_ret (v := .tuple #[.agg #[.int .i64 0, .int .i64 0], .int .i64 11]) (by simp [results, Try.results34, go_sem]) rfl ⟨rfl, ?_⟩
  repeat (first | exact Below.refl _ _ | (refine Below.alloc ?_ (by simp) _))

set_option maxHeartbeats 1000000 in
theorem windowNil_walk (x y : Int) (w : World) :
    Calls Try.prog 8 #[.agg #[.int .i64 x, .int .i64 y]] w fun e w' => e = .returned (.bool true) ∧ Below w.heap.size w w' := by
  go_enter Try.func8, Try.ntmps8
  go_wp2_with fail
  have Xa := Lib.hid (Bk.mk_ w 28 #[.int .i64 x, .int .i64 y])
  refine (next_nil _).mono ?_
  rintro e w1 ⟨rfl, g⟩
  have y' := Xa.out.below g Xa.out.lt
  clear Xa
  have Xa := Lib.hid y'
  have ka_0 := y'.cell 0
  have ka_1 := y'.cell 1
  simp at ka_0 ka_1
  clear y'
  have t := Bsz (show Below w.heap.size w _ from (Below.refl _ _).alloc (Nat.le_refl _) _) g
  have T := Lib.hid t
  clear g t
  go_wp2_with fail
  refine (known12 _).mono ?_
  rintro e w2 ⟨rfl, hb⟩
  have g := Bsz (show Below w1.heap.size w1 _ from (by repeat (first | exact Below.refl _ _ | apply Bdn | (refine Below.alloc ?_ (by simp) _)))) hb
  clear hb
  have y := Xa.out.below g Xa.out.lt
  clear Xa
  have Xa := Lib.hid y
  have ka_0 := y.cell 0
  have ka_1 := y.cell 1
  simp at ka_0 ka_1
  clear y
  have t := Bsz T.out g
  clear T
  have T := Lib.hid t
  clear t g
  go_wp2_with fail
  refine (to12 _ _ _).mono ?_
  rintro e w3 ⟨rfl, hb⟩
  have g := Bsz (show Below w2.heap.size w2 _ from (by repeat (first | exact Below.refl _ _ | apply Bdn | (refine Below.alloc ?_ (by simp) _)))) hb
  clear hb
  have y := Xa.out.below g Xa.out.lt
  clear Xa
  have Xa := Lib.hid y
  have ka_0 := y.cell 0
  have ka_1 := y.cell 1
  simp at ka_0 ka_1
  clear y
  have t := Bsz T.out g
  clear T
  have T := Lib.hid t
  clear t g
  go_wp2_with fail
  refine (look_nil _ _ _).mono ?_
  rintro e w4 ⟨rfl, hb⟩
  have g := Bsz (show Below w3.heap.size w3 _ from (by repeat (first | exact Below.refl _ _ | apply Bdn | (refine Below.alloc ?_ (by simp) _)))) hb
  clear hb
  have y := Xa.out.below g Xa.out.lt
  clear Xa
  have Xa := Lib.hid y
  have ka_0 := y.cell 0
  have ka_1 := y.cell 1
  simp at ka_0 ka_1
  clear y
  have t := Bsz T.out g
  clear T
  have T := Lib.hid t
  clear t g
  go_wp2_with fail
  refine (to12 _ _ _).mono ?_
  rintro e w5 ⟨rfl, hb⟩
  have g := Bsz (show Below w4.heap.size w4 _ from (by repeat (first | exact Below.refl _ _ | apply Bdn | (refine Below.alloc ?_ (by simp) _)))) hb
  clear hb
  have y := Xa.out.below g Xa.out.lt
  clear Xa
  have Xa := Lib.hid y
  have ka_0 := y.cell 0
  have ka_1 := y.cell 1
  simp at ka_0 ka_1
  clear y
  have t := Bsz T.out g
  clear T
  have T := Lib.hid t
  clear t g
  go_wp2_with fail
  refine (take_nil _ _ _).mono ?_
  rintro e w6 ⟨rfl, hb⟩
  have g := Bsz (show Below w5.heap.size w5 _ from (by repeat (first | exact Below.refl _ _ | apply Bdn | (refine Below.alloc ?_ (by simp) _)))) hb
  clear hb
  have y := Xa.out.below g Xa.out.lt
  clear Xa
  have Xa := Lib.hid y
  have ka_0 := y.cell 0
  have ka_1 := y.cell 1
  simp at ka_0 ka_1
  clear y
  have t := Bsz T.out g
  clear T
  have T := Lib.hid t
  clear t g
  go_wp2_with fail
  refine (latest_nil _).mono ?_
  rintro e w7 ⟨rfl, hb⟩
  have g := Bsz (show Below w6.heap.size w6 _ from (by repeat (first | exact Below.refl _ _ | apply Bdn | (refine Below.alloc ?_ (by simp) _)))) hb
  clear hb
  have y := Xa.out.below g Xa.out.lt
  clear Xa
  have Xa := Lib.hid y
  have ka_0 := y.cell 0
  have ka_1 := y.cell 1
  simp at ka_0 ka_1
  clear y
  have t := Bsz T.out g
  clear T
  have T := Lib.hid t
  clear t g
  go_wp2_with fail
  refine (to12 _ _ _).mono ?_
  rintro e w8 ⟨rfl, hb⟩
  have g := Bsz (show Below w7.heap.size w7 _ from (by repeat (first | exact Below.refl _ _ | apply Bdn | (refine Below.alloc ?_ (by simp) _)))) hb
  clear hb
  have y := Xa.out.below g Xa.out.lt
  clear Xa
  have Xa := Lib.hid y
  have ka_0 := y.cell 0
  have ka_1 := y.cell 1
  simp at ka_0 ka_1
  clear y
  have t := Bsz T.out g
  clear T
  have T := Lib.hid t
  clear t g
  go_wp2_with fail
  refine (taken_nil _ 0 _ x y _ (by go_simp) (by go_simp) (by simp)).mono ?_
  rintro e w9 ⟨rfl, hb⟩
  have g := Bsz (show Below w8.heap.size w8 _ from (by repeat (first | exact Below.refl _ _ | apply Bdn | (refine Below.alloc ?_ (by simp) _)))) hb
  clear hb
  have t := Bsz T.out g
  clear T
  have T := Lib.hid t
  clear t g
  go_wp2_with fail
  refine (boot_nil _).mono ?_
  rintro e w10 ⟨rfl, hb⟩
  have g := Bsz (show Below w9.heap.size w9 _ from (by repeat (first | exact Below.refl _ _ | apply Bdn | (refine Below.alloc ?_ (by simp) _)))) hb
  clear hb
  have t := Bsz T.out g
  clear T
  have T := Lib.hid t
  clear t g
  go_wp2
  go_ret
  exact ⟨rfl, T.out⟩

theorem contract_windowNil (W : World) (v0 : Value) (a0 : ∃ zs : List Int, v0 = .agg (zs.map (Value.int .i64)).toArray ∧ zs.length = 2 ∧ ∀ z ∈ zs, in64 z) :
    Calls Try.prog 8 #[v0] W fun e W' => e = .returned (.bool true) ∧ Below W.heap.size W W' := by
  obtain ⟨zs, rfl, hl, _⟩ := a0
  obtain ⟨x, y, rfl⟩ : ∃ x y, zs = [x, y] := by
    match zs, hl with
    | [x, y], _ => exact ⟨x, y, rfl⟩
  exact windowNil_walk x y W
end Go.Proofs.Ytidphalfafaniaa
