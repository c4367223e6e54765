/- Contracts of package events: slices.IndexFunc over a closure with two captured variables. -/
import Derived.Test.YtnopmdhjamkoaaaDoorEv4
namespace Go.Proofs.YtnopmdhjamkoaaaDoor
set_option linter.unusedVariables false
set_option linter.unusedSimpArgs false
open Go.RowKit

abbrev evRow (A : Option Addr) (n c : Nat) (l : List Ev) : Ro := ⟨30, 4, .slice A n c, n, evs l⟩
/-- Where the first such is, -1: nowhere. -/
def ixI (D : Ev → Bool) (l : List Ev) : Int := match l.findIdx? D with | some i => i | none => -1
theorem ixI_at {D : Ev → Bool} {l : List Ev} {k : Nat} {e : Ev} (hk : l[k]? = some e) (h : ∀ x ∈ l.take k, D x = false) (he : D e = true) : ixI D l = k := by
  have hlt := (List.getElem?_eq_some_iff.1 hk).1
  have hl : l = l.take k ++ e :: l.drop (k + 1) := by
    have h1 : l.drop k = e :: l.drop (k + 1) := by
      rw [List.drop_eq_getElem_cons hlt]
      rw [List.getElem?_eq_getElem hlt] at hk
      injection hk with hk
      rw [hk]
    rw [← h1, List.take_append_drop]
  have h2 : (l.take k).findIdx? D = none := List.findIdx?_eq_none_iff.2 h
  unfold ixI
  rw [hl, List.findIdx?_append, h2]
  simp [List.findIdx?_cons, he, List.length_take]
  omega
theorem ixI_no {D : Ev → Bool} {l : List Ev} (h : ∀ x ∈ l, D x = false) : ixI D l = -1 := by
  unfold ixI
  rw [List.findIdx?_eq_none_iff.2 h]

set_option maxRecDepth 100000 in
set_option maxHeartbeats 1000000 in
theorem ixf_any (W : World) (bl : Bl) (ow : List Ro) (A : Option Addr) (c : Nat) (l : List Ev) (hn : l.length ≤ 1000000) (p1 p2 : Value) (D : Ev → Bool)
    (HD : ∀ w' ow', Mst W w' bl ow' → ∀ e ∈ l, Calls Tryd.prog 83 #[e.v, p1, p2] w' fun r w2 => r = .returned (.bool (D e)) ∧ Below w'.heap.size w' w2)
    (w : World) (hM : Mst W w bl (evRow A l.length c l :: ow)) :
    Calls Tryd.prog 103 #[.slice A l.length c, .func (Fn.func 83) #[] #[p1, p2]] w fun r w' => r = .returned (.int .i64 (ixI D l)) ∧ Mst W w' bl (evRow A l.length c l :: ow) := by
  obtain ⟨n, hN⟩ : ∃ n, l.length = n := ⟨_, rfl⟩
  have HN := Lib.hid hN
  have HDD := Lib.hid HD
  rw [hN] at hn hM ⊢
  have HM := Lib.hid hM
  clear hN HD hM
  go_enter Tryd.func103, Tryd.ntmps103
  go_wp2_with fail
  go_loopg [8] n (fun gg s8 wr => ∃ k : Nat, k + gg = n ∧ s8 = .int .i64 k ∧ Hid (∀ x ∈ l.take k, D x = false) ∧ Mst W wr bl (evRow A n c l :: ow))
  case atStart => exact ⟨0, by omega, rfl, Lib.hid (by simp), HM.out⟩
  case round =>
    obtain ⟨k, hk, rfl, hd, hm⟩ := hrel
    by_cases hlt : k < n
    · obtain ⟨e, he⟩ : ∃ e, l[k]? = some e := ⟨_, List.getElem?_eq_getElem (by rw [HN.out]; exact hlt)⟩
      have hs : Src W bl (evRow A n c l :: ow) 4 A l.length (evs l) := by rw [HN.out]; exact hm.rowSrc (List.mem_cons_self ..)
      obtain ⟨b, o, rfl, hb, q0, q1, q2, q3⟩ := srcE hm hs he
      have HE := Lib.hid he
      have HC := Lib.hid (HDD.out wr _ hm e (List.mem_of_getElem? he))
      have Mq := Lib.hid hm
      have i1 : (k : Int) < n := by omega
      have i2 : (0 : Int) ≤ k := by omega
      have i3 : (n : Int) ≤ 1000000 := by omega
      clear hs hm he hb
      go_wp2_with fail
      refine HC.out.mono ?_
      rintro r w2 ⟨rfl, hb⟩
      have Mq := Lib.hid (Mq.out.below hb)
      clear hb q0 q1 q2 q3 HC
      cases hD : D e
      · have HD2 := Lib.hid hD
        clear hD
        go_wp2_with fail
        go_roundg (n - (k + 1))
        case measure => exact meas hk hlt
        case rel => exact ⟨k + 1, meas2 hlt, by go_num, Lib.hid (by
          intro x hx
          rw [List.take_add_one, HE.out] at hx
          rcases List.mem_append.1 hx with hx | hx
          · exact hd.out x hx
          · obtain rfl : x = e := by simpa using hx
            exact HD2.out), Mq.out⟩
      · have HX := Lib.hid (ixI_at HE.out hd.out hD)
        clear hD hd
        go_wp2
        try rw [Exit.noGoto_ret]
        go_ret
        exact ⟨by rw [HX.out]; rfl, Mq.out⟩
    · obtain rfl : k = n := by omega
      have HX := Lib.hid (ixI_no (D := D) (l := l) (by
        have := hd.out
        rw [List.take_of_length_le (by rw [HN.out]; exact Nat.le_refl _)] at this
        exact this))
      have Mq := Lib.hid hm
      clear hd hk hlt hm
      go_wp2
      go_ret
      exact ⟨by rw [HX.out]; rfl, Mq.out⟩
end Go.Proofs.YtnopmdhjamkoaaaDoor
