/- What Cut cuts; steps with bytes in memory. -/
import Derived.Test.YtnopmdhjamkoaaaDoorSc5
import Derived.Test.YtnopmdhjamkoaaaDoorSc6
import Derived.Test.YtnopmdhjamkoaaaDoorSc9
import Derived.Test.YtnopmdhjamkoaaaDoorSc10
import Derived.Test.YtnopmdhjamkoaaaDoorOpenA
import Derived.Test.YtnopmdhjamkoaaaDoorOpen4
namespace Go.Proofs.YtnopmdhjamkoaaaDoor
set_option linter.unusedVariables false
set_option linter.unusedSimpArgs false
open Go.RowKit
theorem cutN_spec (l : List St) (most : Int) : ∀ m, m ≤ l.length → cutN l most m ≤ m ∧ (∀ j e, j < cutN l most m → l[j]? = some e → e.chk = 0 ∧ tickS (l.take (j + 1)) ≤ most) ∧ (cutN l most m < m → ∃ e, l[cutN l most m]? = some e ∧ (e.chk ≠ 0 ∨ most < tickS (l.take (cutN l most m + 1))))
  | 0, _ => ⟨Nat.le_refl _, fun j e h => absurd h (by simp [cutN]), fun h => absurd h (by simp [cutN])⟩
  | m + 1, hm => by
    obtain ⟨h1, h2, h3⟩ := cutN_spec l most m (by omega)
    obtain ⟨e, he⟩ : ∃ e, l[m]? = some e := ⟨_, List.getElem?_eq_getElem (by omega)⟩
    rcases Nat.lt_or_ge (cutN l most m) m with hlt | hge
    · have e1 : cutN l most (m + 1) = cutN l most m := by
        conv => lhs; unfold cutN
        simp only []
        rw [if_pos hlt]
      rw [e1]
      exact ⟨by omega, h2, fun _ => h3 hlt⟩
    · have hk : cutN l most m = m := by omega
      by_cases hc : e.chk ≠ 0 ∨ most < tickS (l.take (m + 1))
      · have e1 : cutN l most (m + 1) = m := cutN_stop hk he hc _ (by omega)
        rw [e1]
        rw [hk] at h2
        exact ⟨by omega, h2, fun _ => ⟨e, he, hc⟩⟩
      · have hc1 : e.chk = 0 := Decidable.byContradiction fun h => hc (.inl h)
        have hc2 : tickS (l.take (m + 1)) ≤ most := by
          by_cases h0 : most < tickS (l.take (m + 1))
          · exact absurd (Or.inr h0) hc
          · omega
        have e1 : cutN l most (m + 1) = m + 1 := cutN_go hk he hc1 hc2
        rw [e1]
        refine ⟨Nat.le_refl _, fun j e' hj he' => ?_, fun h => absurd h (by omega)⟩
        rcases Nat.lt_or_ge j m with h | h
        · exact h2 j e' (by omega) he'
        · obtain rfl : j = m := by omega
          rw [he] at he'
          cases he'
          exact ⟨hc1, hc2⟩
theorem cutN_all (l : List St) (most : Int) : ∀ m, m ≤ l.length → (∀ j e, j < m → l[j]? = some e → e.chk = 0 ∧ tickS (l.take (j + 1)) ≤ most) → cutN l most m = m
  | 0, _, _ => rfl
  | m + 1, hm, h => by
    have ih := cutN_all l most m (by omega) fun j e hj he => h j e (by omega) he
    obtain ⟨e, he⟩ : ∃ e, l[m]? = some e := ⟨_, List.getElem?_eq_getElem (by omega)⟩
    obtain ⟨h1, h2⟩ := h m e (by omega) he
    exact cutN_go ih he h1 h2
theorem cutN_again (l : List St) (most : Int) (m q : Nat) (hm : m ≤ l.length) (hq : q = cutN l most m) : cutN (l.take q) most q = q := by
  obtain ⟨h1, h2, -⟩ := cutN_spec l most m hm
  rw [← hq] at h1 h2
  refine cutN_all _ _ _ (by rw [List.length_take]; omega) fun j e hj he => ?_
  rw [List.getElem?_take, if_pos hj] at he
  have := h2 j e hj he
  rw [List.take_take, show min (j + 1) q = j + 1 by omega]
  exact this
theorem own_none {w : World} {base e size n c : Nat} {xs : List Value} (h : w.ownsRow base e size (.slice none n c) n xs) : c = 0 := by
  rcases h.2 with ⟨h1, h2⟩ | ⟨g, cap, cur, h1, _⟩
  · injection h1
  · simp only [Value.slice.injEq] at h1
    cases h1.1
theorem stps_sb {W : World} : ∀ fs : List (Int × Int × Int × Rw), (∀ f ∈ fs, in64 f.1 ∧ in64 f.2.1 ∧ in64 f.2.2.1 ∧ f.2.2.2.ok .u8 W) → ∃ gs : List Sb, sts (gs.map Sb.st) = fs.flatMap f4 ∧ gs.length = fs.length ∧ ∀ g ∈ gs, RB W W.heap.size g.A g.l ∧ g.l.length ≤ g.c ∧ g.c ≤ 9223372036854775807
  | [], _ => ⟨[], rfl, rfl, by simp⟩
  | (s, m, n, x) :: fs, h => by
    obtain ⟨gs, h1, h2, h3⟩ := stps_sb fs fun f hf => h f (List.mem_cons_of_mem _ hf)
    obtain ⟨_, _, hn, ok⟩ := h (s, m, n, x) (List.mem_cons_self ..)
    obtain ⟨l, e1, e2⟩ := bytes_of x.zs ok.wf
    have hrd := ok.rd
    have hle := ok.le
    have hcap := ok.cap
    rw [e1] at hrd
    rw [← e2] at hrd hle
    refine ⟨⟨s, m, n, x.A, x.c, l⟩ :: gs, ?_, by simp [h2], fun g hg => ?_⟩
    · have e : sts ((⟨s, m, n, x.A, x.c, l⟩ :: gs).map Sb.st) = [.int .i64 s, .int .i64 m, .int .i64 n, .slice x.A l.length x.c] ++ sts (gs.map Sb.st) := rfl
      rw [e, h1, e2]
      rfl
    · rcases List.mem_cons.1 hg with rfl | hg
      · exact ⟨hrd, hle, by unfold maxLen at hcap; exact hcap⟩
      · exact h3 g hg
abbrev sRow (A : Option Addr) (n c : Nat) (l : List Sb) : Ro := ⟨62, 4, .slice A n c, n, sts (l.map Sb.st)⟩
abbrev rRow (A : Option Addr) (n c : Nat) (l : List Sb) : Ro := ⟨67, 4, .slice A n c, n, sts (l.map Sb.st)⟩
/-- The document's Same over two rows of the same steps. -/
theorem rsame_rows {W w : World} {ow : List Ro} (h : Mst W w [] ow) {A A2 : Option Addr} {n c c2 : Nat} {xs : List Sb} (hx : xs.length = n) (h1 : rRow A n c xs ∈ ow) (h2 : rRow A2 n c2 xs ∈ ow) (hb : ∀ f ∈ xs, brow f ∈ ow) (hl : ∀ f ∈ xs, f.l.length ≤ 410) (hn : n ≤ 1000) :
    Calls Tryd.prog 33 #[.slice A n c, .slice A2 n c2] w fun r w' => r = .returned (.bool true) ∧ Below w.heap.size w w' := by
  have hbs : ∀ x ∈ xs, RB w w.heap.size x.A x.l := fun x hx => h.src (h.rowSrc (hb x hx))
  exact rsame31_any w A A2 n c c2 xs xs hx hx (h.src (h.rowSrc h1)) (h.src (h.rowSrc h2)) hbs hbs (fun i x y hx hy => by rw [hx] at hy; cases hy; exact ⟨rfl, rfl, rfl, rfl⟩) (fun x hx => Nat.le_trans (hl x hx) (by omega)) hn
end Go.Proofs.YtnopmdhjamkoaaaDoor
