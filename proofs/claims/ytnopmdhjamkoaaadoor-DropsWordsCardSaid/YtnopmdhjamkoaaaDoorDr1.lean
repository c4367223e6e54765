/- Contracts of package drops: New, reason, add, All. -/
import Derived.Test.YtnopmdhjamkoaaaDoorDrL
import Derived.Test.YtnopmdhjamkoaaaDoorBaseA
import Derived.Test.YtnopmdhjamkoaaaDoorProg
import Derived.Deep.LoopGhost
import Derived.Deep.RegionWith
namespace Go.Proofs.YtnopmdhjamkoaaaDoor
set_option linter.unusedVariables false
open Go.RowKit

/-- The cells of drops: the limit, sixteen counts. -/
def dcs (top : Int) (ns : List Int) : Array Value := (.int .i64 top :: i64s ns).toArray
theorem dcs_top (top : Int) (ns : List Int) : (dcs top ns)[0]? = some (.int .i64 top) := by simp [dcs]
theorem dcs_at {top : Int} {ns : List Int} {k : Nat} {x : Int} (h : ns[k]? = some x) : (dcs top ns)[k + 1]? = some (.int .i64 x) := by simp [dcs, i64s_get h]
theorem dcs_set (top : Int) (ns : List Int) (k : Nat) (x : Int) : (dcs top ns).setIfInBounds (k + 1) (.int .i64 x) = dcs top (ns.set k x) := by simp [dcs, i64s_set]
theorem dcs_new {top : Int} (ht : 1 ≤ top) : dcs top (dns top []) = #[.int .i64 top, .int .i64 0, .int .i64 0, .int .i64 0, .int .i64 0, .int .i64 0, .int .i64 0, .int .i64 0, .int .i64 0, .int .i64 0, .int .i64 0, .int .i64 0, .int .i64 0, .int .i64 0, .int .i64 0, .int .i64 0, .int .i64 0] := by
  have h : dns top [] = List.replicate 16 0 := by
    apply List.ext_getElem?
    intro k
    by_cases hk : k < 16
    · rw [dns_get top _ hk, List.getElem?_replicate, if_pos hk]
      unfold ofN
      simp
      omega
    · rw [List.getElem?_eq_none (by simp [dns_len]; omega), List.getElem?_eq_none (by simp; omega)]
  rw [h]
  rfl

theorem new13 (top : Int) (ht : 1 ≤ top) (ht' : top ≤ 2147483647) (w : World) :
    Calls Tryd.prog 57 #[.int .i64 top] w fun e w' => e = .returned (.tuple #[.pointer (some ⟨w.heap.size, 0, none⟩), .int .i64 0]) ∧ Below w.heap.size w w' ∧ Bk w' w.heap.size 97 (dcs top (dns top [])) := by
  have hc := Lib.hid (dcs_new ht)
  go_enter Tryd.func57, Tryd.ntmps57
  go_wp2
  go_ret2
  exact ⟨rfl, (Below.refl _ _).alloc (Nat.le_refl _) _, (Bk.mk_ _ _ _).of_eq hc.out.symm⟩

theorem new13_no (top : Int) (ht : ¬ (1 ≤ top ∧ top ≤ 2147483647)) (w : World) :
    Calls Tryd.prog 57 #[.int .i64 top] w fun e w' => e = .returned (.tuple #[.pointer none, .int .i64 10]) ∧ Below w.heap.size w w' := by
  by_cases h1 : top < 1
  · go_enter Tryd.func57, Tryd.ntmps57
    go_wp2
    go_ret2
    exact ⟨rfl, Below.refl _ _⟩
  · have h2 : 2147483647 < top := by omega
    clear ht
    go_enter Tryd.func57, Tryd.ntmps57
    go_wp2
    go_ret2
    exact ⟨rfl, Below.refl _ _⟩

/-- Is it a reason? -/
def isR (e : Int) : Bool := decide (1 ≤ e ∧ e ≤ 15)
theorem isR_yes {e : Int} (h : 1 ≤ e ∧ e ≤ 15) : isR e = true := by simp [isR, h]
theorem isR_no {e : Int} (h : ¬ (1 ≤ e ∧ e ≤ 15)) : isR e = false := by simp [isR]; omega
theorem reason13 (e : Int) (w : World) : Calls Tryd.prog 58 #[.int .i64 e] w fun r w' => r = .returned (.bool (isR e)) ∧ Below w.heap.size w w' := by
  by_cases h1 : 1 ≤ e
  · by_cases h2 : e ≤ 15
    · have h := Lib.hid (isR_yes ⟨h1, h2⟩)
      go_enter Tryd.func58, Tryd.ntmps58
      go_wp2
      go_ret
      exact ⟨by rw [h.out]; rfl, Below.refl _ _⟩
    · have h := Lib.hid (isR_no (e := e) (by omega))
      go_enter Tryd.func58, Tryd.ntmps58
      go_wp2
      go_ret
      exact ⟨by rw [h.out]; rfl, Below.refl _ _⟩
  · have h := Lib.hid (isR_no (e := e) (by omega))
    go_enter Tryd.func58, Tryd.ntmps58
    go_wp2
    go_ret
    exact ⟨by rw [h.out]; rfl, Below.refl _ _⟩

set_option maxHeartbeats 1000000 in
theorem add13 (g : Nat) (top : Int) (ns : List Int) (e n x : Int) (w : World) (hb : Bk w g 97 (dcs top ns)) (he : 1 ≤ e ∧ e ≤ 15) (hx : ns[e.toNat]? = some x)
    (hx0 : 0 ≤ x) (hx1 : x ≤ 2147483647) (hn0 : 0 ≤ n) (hn1 : n ≤ 2147483647) (ht : 1 ≤ top) (ht' : top ≤ 2147483647) :
    Calls Tryd.prog 60 #[.pointer (some ⟨g, 0, none⟩), .int .i64 e, .int .i64 n] w fun r w' => r = .returned (.tuple #[]) ∧ On w w' g ∧ Bk w' g 97 (dcs top (ns.set e.toNat (min (x + n) top))) := by
  obtain ⟨he0, he1⟩ := he
  obtain ⟨k, rfl⟩ : ∃ k : Nat, e = k := ⟨e.toNat, by omega⟩
  have hk : ((k : Int)).toNat = k := by omega
  rw [hk] at hx ⊢
  have hk1 : k ≤ 15 := by omega
  have c0 : w.cell? ⟨g, 0, none⟩ = some (.int .i64 top) := by rw [hb.cell]; exact dcs_top _ _
  have c1 : w.cell? ⟨g, 1 + k, none⟩ = some (.int .i64 x) := by rw [hb.cell, Nat.add_comm]; exact dcs_at hx
  have f1 : w.frozen? ⟨g, 1 + k, none⟩ = false := hb.fr _
  have HB := Lib.hid hb
  have hs : Hid ((dcs top ns).setIfInBounds (1 + k) (.int .i64 (min (x + n) top)) = dcs top (ns.set k (min (x + n) top))) := by
    show _ = _
    rw [Nat.add_comm]; exact dcs_set _ _ _ _
  clear hb hx
  go_enter Tryd.func60, Tryd.ntmps60
  go_region
  go_wp2
  all_goals
    go_end0
    refine ⟨rfl, ?_, ?_⟩
    · first | exact ((On.refl w g).set (p := ⟨g, _, none⟩) (.inl rfl) _).drew | exact ((On.refl w g).set (p := ⟨g, _, none⟩) (.inl rfl) _).drewN _
    · refine Bk.of_eq (by first | exact ((HB.out.put _ _).drew) | exact ((HB.out.put _ _).drewN _)) ?_
      rw [← hs.out]
      congr 2
      omega

theorem info_arr16 : (Tryd.prog.info? 47).map (·.size) = some 16 := by kernel_rfl
theorem all13 (g : Nat) (top : Int) (ns : List Int) (w : World) (hb : Bk w g 97 (dcs top ns)) (hl : ns.length = 16) :
    Calls Tryd.prog 27 #[.pointer (some ⟨g, 0, none⟩)] w fun r w' => r = .returned (.agg (i64s ns).toArray) ∧ Below w.heap.size w w' := by
  have hr : ∀ o : Obj, (w.alloc o).rangeAt g 1 (i64s ns) := fun o => (hb.alloc o).range fun j v hv => by
    have hj : j < ns.length := by
      have := (List.getElem?_eq_some_iff.1 hv).1
      simpa [i64s] using this
    have hv' := i64s_get (List.getElem?_eq_getElem hj)
    rw [hv'] at hv
    rw [Nat.add_comm, ← hv]
    exact dcs_at (List.getElem?_eq_getElem hj)
  have hi : (Tryd.prog.info? 47).map (·.size) = some (i64s ns).length := by rw [i64s_len, hl]; exact info_arr16
  have hi2 : (Tryd.prog.info? 47).map (·.size) = some (i64s ns).toArray.size := by simpa using hi
  have hone := all_oneCell_toArray (i64s_one ns)
  have HR := Lib.hid hr
  have HI := Lib.hid hi
  have HI2 := Lib.hid hi2
  have H1 := Lib.hid hone
  have HL := Lib.hid hl
  have HB := Lib.hid hb
  clear hr hi hi2 hone hl hb
  go_enter Tryd.func27, Tryd.ntmps27
  go_wp2_with (first | refine wpList_load_mid rfl _ _ rfl g 1 rfl (i64s ns) _ (HR.out _) Tryd.underlying47 rfl HI.out ?_ | refine wpList_store_row rfl _ _ _ rfl w.heap.size (i64s ns).toArray rfl rfl 47 _ (heap_alloc_last _ _) HI2.out (by simp [i64s_len, HL.out]) H1.out ?_)
  refine bodyPost_ret (results_cell_row rfl _ _ w.heap.size 47 _ (0, 0) _ rfl (setRow_heap _ _ _ _ _ _ (heap_alloc_last _ _)) Tryd.underlying47 rfl HI2.out) rfl ⟨rfl, ?_⟩
  rw [World.setRow_alloc_new]
  exact (Below.refl _ _).alloc (Nat.le_refl _) _
end Go.Proofs.YtnopmdhjamkoaaaDoor
