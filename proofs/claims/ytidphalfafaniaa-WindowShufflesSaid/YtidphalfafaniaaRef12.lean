/- Contracts of the document's answer of layer 12: Latest, Look; and of the law's Of. -/
import Derived.Test.YtidphalfafaniaaWinT
import Derived.Test.YtidphalfafaniaaOpen
import Derived.Test.YtidphalfafaniaaMst
import Derived.Test.YtidphalfafaniaaEq2
import Derived.Deep.LoopGhost
import Derived.Deep.RegionWith
namespace Go.Proofs.Ytidphalfafaniaa
set_option linter.unusedVariables false
open Go.RowKit

/-- The greatest nonce of all. -/
def latP (ns : List (Int × Int)) : Int × Int := ns.foldl (fun o x => if lessN o.1 o.2 x.1 x.2 then x else o) (0, 0)
theorem latP_snoc {ns : List (Int × Int)} {k : Nat} {x : Int × Int} (h : ns[k]? = some x) : latP (ns.take (k + 1)) = if lessN (latP (ns.take k)).1 (latP (ns.take k)).2 x.1 x.2 then x else latP (ns.take k) := by
  unfold latP
  rw [List.take_add_one, h]
  simp only [Option.toList, List.foldl_append, List.foldl_cons, List.foldl_nil]

theorem of12 (b c : Int) (w : World) :
    Calls Try.prog 30 #[.agg #[.int .i64 b, .int .i64 c]] w fun e w' => e = .returned (.agg #[.int .i64 b, .int .i64 c]) ∧ Below w.heap.size w w' := by
  go_enter Try.func30, Try.ntmps30
  go_wp2
  refine bodyPost_ret (v := .agg #[.int .i64 b, .int .i64 c]) (by simp [results, Try.results30, go_sem]) rfl ⟨rfl, ?_⟩
  exact ((((Below.refl _ _).alloc (Nat.le_refl _) _).alloc (by simp) _))

set_option maxHeartbeats 1000000 in
theorem latest12 (A : Option Addr) (c : Nat) (ns : List (Int × Int)) (W : World) (hP : Prs W W.heap.size A ns) (hlen : ns.length ≤ 1000000) :
    Calls Try.prog 31 #[.slice A ns.length c] W fun e w' => e = .returned (.agg #[.int .i64 (latP ns).1, .int .i64 (latP ns).2]) ∧ Below W.heap.size W w' := by
  have HP := Lib.hid hP
  clear hP
  go_enter Try.func31, Try.ntmps31
  go_wp2
  go_loopg [4] ns.length (fun g s4 wr => ∃ k : Nat, k + g = ns.length ∧ s4 = .int .i64 k ∧ Mst W wr [(W.heap.size + 1, 28, #[.int .i64 (latP (ns.take k)).1, .int .i64 (latP (ns.take k)).2]), (W.heap.size, 28, #[.int .i64 0, .int .i64 0])] [])
  case atStart =>
    refine ⟨0, by omega, rfl, ?_⟩
    have a := ((Mst.start W).new 28 #[.int .i64 0, .int .i64 0]).new 28 #[.int .i64 0, .int .i64 0]
    rw [show (W.alloc (.cells #[.int .i64 0, .int .i64 0] 28)).heap.size = W.heap.size + 1 by simp] at a
    exact a
  case round =>
    obtain ⟨k, hk, rfl, hs⟩ := hrel
    have l0 := (hs.blk []).cell 0
    have l1 := (hs.blk []).cell 1
    have f0 := (hs.blk []).fr 0
    have f1 := (hs.blk []).fr 1
    simp at l0 l1
    by_cases hlt : k < ns.length
    · obtain ⟨b, o, hA, hbB, hcell⟩ := HP.out.at_ (by omega)
      obtain ⟨x, hx⟩ : ∃ x, ns[k]? = some x := ⟨_, List.getElem?_eq_getElem hlt⟩
      obtain ⟨h0, h1⟩ := hcell k x hx
      clear hcell
      subst hA
      have e0 := hs.old hbB h0
      have e1 := hs.old hbB h1
      have HX := Lib.hid (latP_snoc hx)
      clear hx
      generalize hT : latP (ns.take k) = T at *
      generalize hU : latP (ns.take (k + 1)) = U at *
      have HT := Lib.hid hT
      have HU := Lib.hid hU
      clear hT hU
      by_cases hle : lessN T.1 T.2 x.1 x.2 = true
      · have HE : Hid (U = x) := by have := HX.out; rw [if_pos hle] at this; exact this
        go_wp2_with fail
        go_region_with (go_at_call 18; refine (Mst.calls (by first | assumption | (apply Mst.drew; assumption) | (apply Mst.drewN; assumption) | (apply Mst.alloc; assumption)) (less12 _ _ _ _ _)).mono ?_; rintro e w9 ⟨rfl, h9⟩)
        all_goals
          have l0 := (h9.blk []).cell 0
          have l1 := (h9.blk []).cell 1
          have f0 := (h9.blk []).fr 0
          have f1 := (h9.blk []).fr 1
          have e0 := h9.old hbB h0
          have e1 := h9.old hbB h1
          simp at l0 l1
          have s6 := (h9.put [] 0 (.int .i64 x.1)).put [] 1 (.int .i64 x.2)
          go_wp2_with fail
          go_roundg (ns.length - (k + 1))
          case measure => omega
          case rel => exact ⟨k + 1, by omega, by go_num, by rw [HU.out, HE.out]; simpa using s6⟩
      · have hle' : lessN T.1 T.2 x.1 x.2 = false := by simpa using hle
        have HE : Hid (U = T) := by have := HX.out; rw [if_neg hle] at this; exact this
        clear hle
        go_wp2_with fail
        go_region_with (go_at_call 18; refine (Mst.calls (by first | assumption | (apply Mst.drew; assumption) | (apply Mst.drewN; assumption) | (apply Mst.alloc; assumption)) (less12 _ _ _ _ _)).mono ?_; rintro e w9 ⟨rfl, h9⟩)
        all_goals
          go_wp2_with fail
          go_roundg (ns.length - (k + 1))
          case measure => omega
          case rel => exact ⟨k + 1, by omega, by go_num, by rw [HU.out, HE.out]; exact h9⟩
    · obtain rfl : k = ns.length := by omega
      have HS := Lib.hid hs
      have g0 := (hs.blk [_]).cell 0
      have g1 := (hs.blk [_]).cell 1
      have p0 := (hs.blk [_]).fr 0
      have p1 := (hs.blk [_]).fr 1
      simp at g0 g1
      rw [List.take_length] at l0 l1
      clear hs hk
      go_wp2
      refine bodyPost_ret (v := .agg #[.int .i64 (latP ns).1, .int .i64 (latP ns).2]) (by simp [results, Try.results31, go_sem, g0, g1]) rfl ⟨rfl, ?_⟩
      exact ((HS.out.put [_] 0 _).put [_] 1 _).bel

/-- What the document answers. -/
def lookR (ns : List (Int × Int)) (b c : Int) : Int :=
  if okN b c = false then 10 else if b < (latP ns).1 ∨ (b = (latP ns).1 ∧ c ≤ (latP ns).2 - 64) then 9 else if (b, c) ∈ ns then 8 else 0

theorem lookR_no {ns : List (Int × Int)} {b c : Int} (h : okN b c = false) : lookR ns b c = 10 := by unfold lookR; rw [if_pos h]
theorem lookR_old {ns : List (Int × Int)} {b c : Int} (h : okN b c = true) (h1 : b < (latP ns).1 ∨ (b = (latP ns).1 ∧ c ≤ (latP ns).2 - 64)) : lookR ns b c = 9 := by
  unfold lookR; rw [if_neg (by simp [h]), if_pos h1]
theorem lookR_in {ns : List (Int × Int)} {b c : Int} (h : okN b c = true) (h1 : ¬ (b < (latP ns).1 ∨ (b = (latP ns).1 ∧ c ≤ (latP ns).2 - 64))) (h2 : (b, c) ∈ ns) : lookR ns b c = 8 := by
  unfold lookR; rw [if_neg (by simp [h]), if_neg h1, if_pos h2]
theorem lookR_out {ns : List (Int × Int)} {b c : Int} (h : okN b c = true) (h1 : ¬ (b < (latP ns).1 ∨ (b = (latP ns).1 ∧ c ≤ (latP ns).2 - 64))) (h2 : (b, c) ∉ ns) : lookR ns b c = 0 := by
  unfold lookR; rw [if_neg (by simp [h]), if_neg h1, if_neg h2]

set_option maxHeartbeats 2000000 in
theorem look12 (A : Option Addr) (cp : Nat) (ns : List (Int × Int)) (b c : Int) (W : World) (hP : Prs W W.heap.size A ns) (hlen : ns.length ≤ 1000000) (hT : 0 ≤ (latP ns).2) (hT' : (latP ns).2 ≤ 2147483647) :
    Calls Try.prog 28 #[.slice A ns.length cp, .agg #[.int .i64 b, .int .i64 c]] W fun e w' => e = .returned (.int .i64 (lookR ns b c)) ∧ Below W.heap.size W w' := by
  have hEq := eq_refNonce
  have HP := Lib.hid hP
  clear hP
  by_cases hok : okN b c = true
  · have HO := Lib.hid (@lookR_old ns b c hok)
    have HI := Lib.hid (@lookR_in ns b c hok)
    have HU := Lib.hid (@lookR_out ns b c hok)
    generalize hTT : latP ns = T at *
    have HTT := Lib.hid hTT
    clear hTT
    by_cases h1 : b < T.1
    · have HF := Lib.hid (HO.out (.inl h1))
      go_enter Try.func28, Try.ntmps28
      have a0 := (Mst.start W).new 28 #[.int .i64 b, .int .i64 c]
      go_wp2_with fail
      refine (a0.calls (right12 _ _ _)).mono ?_
      rintro e w1 ⟨rfl, a1⟩
      clear a0
      go_wp2_with fail
      refine (a1.calls (latest12 _ _ ns _ (a1.oldRd HP.out) hlen)).mono ?_
      rintro e w2 ⟨rfl, a2⟩
      rw [HTT.out]
      have a3 := a2.new 28 #[.int .i64 T.1, .int .i64 T.2]
      clear a1
      have hz2 : W.heap.size < w2.heap.size := (a2.blk []).lt
      have l0 := (a2.blk []).cell 0
      have l1 := (a2.blk []).cell 1
      simp at l0 l1
      go_wp2
      go_ret
      exact ⟨by rw [HF.out]; rfl, a3.bel⟩
    · by_cases h2 : b = T.1 ∧ c ≤ T.2 - 64
      · have HF := Lib.hid (HO.out (.inr h2))
        obtain ⟨h2, h3⟩ := h2
        have hb : (b == T.1) = true := by simpa using h2
        clear h2
        go_enter Try.func28, Try.ntmps28
        have a0 := (Mst.start W).new 28 #[.int .i64 b, .int .i64 c]
        go_wp2_with fail
        refine (a0.calls (right12 _ _ _)).mono ?_
        rintro e w1 ⟨rfl, a1⟩
        clear a0
        go_wp2_with fail
        refine (a1.calls (latest12 _ _ ns _ (a1.oldRd HP.out) hlen)).mono ?_
        rintro e w2 ⟨rfl, a2⟩
        rw [HTT.out]
        have a3 := a2.new 28 #[.int .i64 T.1, .int .i64 T.2]
        clear a1
        have hz2 : W.heap.size < w2.heap.size := (a2.blk []).lt
        have l0 := (a2.blk []).cell 0
        have l1 := (a2.blk []).cell 1
        simp at l0 l1
        go_wp2
        go_ret
        exact ⟨by rw [HF.out]; rfl, a3.bel⟩
      · have HN0 := Lib.hid (show ¬ (b < T.1 ∨ (b = T.1 ∧ c ≤ T.2 - 64)) from by omega)
        have hd : decide (b < T.1) = false := by simpa using h1
        have hcs : (b == T.1) = false ∨ ((b == T.1) = true ∧ decide (c ≤ T.2 - 64) = false) := by
          by_cases q : b = T.1
          · exact .inr ⟨by simpa using q, by simp; omega⟩
          · exact .inl (by simpa using q)
        rcases hcs with hb | ⟨hb, hc⟩
        all_goals
          clear h1 h2
          go_enter Try.func28, Try.ntmps28
          have a0 := (Mst.start W).new 28 #[.int .i64 b, .int .i64 c]
          go_wp2_with fail
          refine (a0.calls (right12 _ _ _)).mono ?_
          rintro e w1 ⟨rfl, a1⟩
          clear a0
          go_wp2_with fail
          refine (a1.calls (latest12 _ _ ns _ (a1.oldRd HP.out) hlen)).mono ?_
          rintro e w2 ⟨rfl, a2⟩
          rw [HTT.out]
          have a3 := a2.new 28 #[.int .i64 T.1, .int .i64 T.2]
          clear a1
          have hz2 : W.heap.size < w2.heap.size := (a2.blk []).lt
          have l0 := (a2.blk []).cell 0
          have l1 := (a2.blk []).cell 1
          simp at l0 l1
          go_wp2_with fail
          go_loopg [6] ns.length (fun g s6 wr => ∃ k : Nat, k + g = ns.length ∧ s6 = .int .i64 k ∧ Mst W wr [(w2.heap.size, 28, #[.int .i64 T.1, .int .i64 T.2]), (W.heap.size, 28, #[.int .i64 b, .int .i64 c])] [] ∧ (b, c) ∉ ns.take k)
          case atStart => exact ⟨0, by omega, rfl, a3, by simp⟩
          case round =>
            obtain ⟨k, hk, rfl, hs, hnot⟩ := hrel
            clear a2 a3 l0 l1
            have l0 := (hs.blk [_]).cell 0
            have l1 := (hs.blk [_]).cell 1
            simp at l0 l1
            by_cases hlt : k < ns.length
            · obtain ⟨bb, o, hA, hbB, hcell⟩ := HP.out.at_ (by omega)
              obtain ⟨x, hx⟩ : ∃ x, ns[k]? = some x := ⟨_, List.getElem?_eq_getElem hlt⟩
              obtain ⟨h0, h1⟩ := hcell k x hx
              clear hcell
              subst hA
              have e0 := hs.old hbB h0
              have e1 := hs.old hbB h1
              have HX := Lib.hid hx
              have HN := Lib.hid hnot
              clear hx hnot
              by_cases hq : eq2 x.1 x.2 b c = true
              · have HM : Hid ((b, c) ∈ ns) := by
                  simp [eq2] at hq
                  have := List.mem_of_getElem? HX.out
                  rw [← hq.1, ← hq.2]; exact this
                go_wp2_with fail
                go_quiet (fail)
                go_wp2
                go_ret
                exact ⟨by rw [HI.out HN0.out HM.out]; rfl, (hs.drewN _).bel⟩
              · have hq' : eq2 x.1 x.2 b c = false := by simpa using hq
                have HM : Hid ((b, c) ∉ ns.take (k + 1)) := by
                  show _ ∉ _
                  rw [List.take_add_one, HX.out]
                  intro hm
                  rcases List.mem_append.1 hm with hm | hm
                  · exact HN.out hm
                  · simp at hm
                    subst hm
                    simp [eq2] at hq'
                clear hq
                go_wp2_with fail
                go_quiet (fail)
                go_wp2
                go_roundg (ns.length - (k + 1))
                case measure => omega
                case rel => exact ⟨k + 1, by omega, by go_num, hs.drewN _, HM.out⟩
            · obtain rfl : k = ns.length := by omega
              have HM : Hid ((b, c) ∉ ns) := by
                show _ ∉ _
                rw [List.take_length] at hnot; exact hnot
              clear hnot
              go_wp2
              go_ret
              exact ⟨by rw [HU.out HN0.out HM.out]; rfl, hs.bel⟩
  · have hok' : okN b c = false := by simpa using hok
    have HF := Lib.hid (@lookR_no ns b c hok')
    clear hok
    go_enter Try.func28, Try.ntmps28
    have a0 := (Mst.start W).new 28 #[.int .i64 b, .int .i64 c]
    go_wp2_with fail
    refine (a0.calls (right12 _ _ _)).mono ?_
    rintro e w1 ⟨rfl, a1⟩
    go_wp2
    go_ret
    exact ⟨by rw [HF.out]; rfl, a1.bel⟩
end Go.Proofs.Ytidphalfafaniaa
