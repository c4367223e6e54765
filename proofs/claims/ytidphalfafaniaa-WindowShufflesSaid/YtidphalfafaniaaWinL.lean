/- Windows and the document's answer are the same, in plain numbers. -/
import Derived.Test.YtidphalfafaniaaWinC
import Derived.Test.YtidphalfafaniaaWinK
import Derived.Test.YtidphalfafaniaaRef12
namespace Go.Proofs.Ytidphalfafaniaa
set_option linter.unusedVariables false
open Go.RowKit

theorem latP_mem_aux : ∀ (ns : List (Int × Int)) (o : Int × Int), (ns.foldl (fun o x => if lessN o.1 o.2 x.1 x.2 then x else o) o = o ∨ ns.foldl (fun o x => if lessN o.1 o.2 x.1 x.2 then x else o) o ∈ ns) ∧
    lessN (ns.foldl (fun o x => if lessN o.1 o.2 x.1 x.2 then x else o) o).1 (ns.foldl (fun o x => if lessN o.1 o.2 x.1 x.2 then x else o) o).2 o.1 o.2 = false ∧
    ∀ x ∈ ns, lessN (ns.foldl (fun o x => if lessN o.1 o.2 x.1 x.2 then x else o) o).1 (ns.foldl (fun o x => if lessN o.1 o.2 x.1 x.2 then x else o) o).2 x.1 x.2 = false
  | [], o => ⟨.inl rfl, by simp [lessN], by simp⟩
  | y :: ns, o => by
    simp only [List.foldl_cons]
    obtain ⟨h1, h2, h3⟩ := latP_mem_aux ns (if lessN o.1 o.2 y.1 y.2 then y else o)
    generalize ns.foldl (fun o x => if lessN o.1 o.2 x.1 x.2 then x else o) (if lessN o.1 o.2 y.1 y.2 then y else o) = T at *
    by_cases hl : lessN o.1 o.2 y.1 y.2 = true
    · rw [if_pos hl] at h1 h2
      refine ⟨.inr ?_, ?_, ?_⟩
      · rcases h1 with h1 | h1
        · rw [h1]; simp
        · exact List.mem_cons_of_mem _ h1
      · simp [lessN] at *; omega
      · intro x hx
        rcases List.mem_cons.1 hx with rfl | hx
        · exact h2
        · exact h3 x hx
    · rw [if_neg hl] at h1 h2
      refine ⟨?_, h2, ?_⟩
      · rcases h1 with h1 | h1
        · exact .inl h1
        · exact .inr (List.mem_cons_of_mem _ h1)
      · intro x hx
        rcases List.mem_cons.1 hx with rfl | hx
        · simp [lessN] at *; omega
        · exact h3 x hx

theorem WinIs.latest {B C : Int} {S : Nat} {m : List (Int × Int)} (h : WinIs B C S m) : latP m = (B, C) := by
  obtain ⟨h1, h2, h3⟩ := latP_mem_aux m (0, 0)
  change latP m = _ ∨ latP m ∈ m at h1
  change lessN (latP m).1 (latP m).2 0 0 = false at h2
  change ∀ x ∈ m, lessN (latP m).1 (latP m).2 x.1 x.2 = false at h3
  obtain ⟨hB, hB', hC, hC', _⟩ := h.ok
  rcases h.inn with ⟨rfl, rfl, rfl⟩ | hin
  · rfl
  · have a := h3 _ hin
    have hr := h.right _ hin
    rcases h1 with h1 | h1
    · rw [h1] at a
      simp [lessN] at a
      simp at hr
      omega
    · have b := h.top _ h1
      simp [lessN] at a
      apply Prod.ext <;> simp <;> omega

theorem WinIs.look {B C : Int} {S : Nat} {m : List (Int × Int)} (h : WinIs B C S m) (b c : Int) : lookR m b c = lookV B C S b c := by
  have hL1 : (latP m).1 = B := by rw [h.latest]
  have hL2 : (latP m).2 = C := by rw [h.latest]
  by_cases hok : okN b c = true
  · have hok' := hok
    simp [okN] at hok'
    obtain ⟨hB, hB', hC, hC', _⟩ := h.ok
    by_cases h1 : B < b ∨ (b = B ∧ C < c)
    · have hv : lookV B C S b c = 0 := by unfold lookV; rw [if_neg (by omega), if_pos h1]
      rw [hv]
      refine lookR_out hok (by rw [hL1, hL2]; omega) ?_
      intro hm
      have := h.top _ hm
      simp at this
      omega
    · by_cases h2 : b < B ∨ 64 ≤ C - c
      · have hv : lookV B C S b c = 9 := by unfold lookV; rw [if_neg (by omega), if_neg h1, if_pos h2]
        rw [hv]
        exact lookR_old hok (by rw [hL1, hL2]; omega)
      · have e : (b, c) = (B, C - ((C - c).toNat : Int)) := by apply Prod.ext <;> simp <;> omega
        have hb := h.bits (C - c).toNat (by omega)
        rw [← e] at hb
        have hold : ¬ (b < (latP m).1 ∨ (b = (latP m).1 ∧ c ≤ (latP m).2 - 64)) := by rw [hL1, hL2]; omega
        by_cases hbt : S.testBit (C - c).toNat = true
        · have hv : lookV B C S b c = 8 := by unfold lookV; rw [if_neg (by omega), if_neg h1, if_neg h2, if_pos hbt]
          rw [hv]
          exact lookR_in hok hold (hb.1 hbt)
        · have hv : lookV B C S b c = 0 := by unfold lookV; rw [if_neg (by omega), if_neg h1, if_neg h2, if_neg hbt]
          rw [hv]
          exact lookR_out hok hold (fun hm => hbt (hb.2 hm))
  · have hok' : okN b c = false := by simpa using hok
    rw [lookR_no hok']
    unfold lookV
    rw [if_pos]
    simp [okN] at hok'
    omega
end Go.Proofs.Ytidphalfafaniaa
