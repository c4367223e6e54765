/- The laws' fields of layer 4: To; the chapter's example; Same. -/
import Derived.Test.YthnaobolmgcclaaWireB
import Derived.Test.YthnaobolmgcclaaEqual
import Derived.Test.YthnaobolmgcclaaRd1
import Derived.Deep.RegionHeld3
import Derived.Lib.MinMax
namespace Go.Proofs.Ythnaobolmgcclaa
set_option linter.unusedVariables false
open Go.RowKit

theorem el_field : El Try.prog 23 39 3 40 := El.of Try.underlying23 (z := .agg #[.int .i64 0, .int .i64 0, .slice none 0 0]) (by kernel_rfl) rfl (by decide)

/-- The row of a field's bytes. -/
def brow (f : Fd) : Ro := ⟨5, 1, .slice f.A f.l.length f.c, f.l.length, by8 f.l⟩
/-- A field with bytes of its own: cut at 520. -/
def cutF (g f : Fd) : Prop := f.s = g.s ∧ f.n = g.n ∧ f.l = g.l.take 520
def ToRel (W : World) (bl : Bl) (ow : List Ro) (gs : List Fd) (k : Nat) (v : Value) (w : World) : Prop :=
  ∃ fs : List Fd, fs.length = k ∧ (∀ (i : Nat) (g f : Fd), gs[i]? = some g → fs[i]? = some f → cutF g f) ∧ Mst W w bl (⟨39, 3, v, k, fcs fs⟩ :: (fs.reverse.map brow ++ ow))
theorem fcs_snoc (fs : List Fd) (f : Fd) : fcs (fs ++ [f]) = fcs fs ++ f.cs := by simp [fcs]

theorem srcC {W w : World} {bl : Bl} {ow : List Ro} {b o : Nat} {fs : List Fd} (h : Mst W w bl ow) (hs : Src W bl ow 3 (some ⟨b, o, none⟩) fs.length (fcs fs)) {k : Nat} {f : Fd} (hk : fs[k]? = some f) :
    w.cell? ⟨b, o + k * 3, none⟩ = some (.int .i64 f.s) ∧ w.cell? ⟨b, o + k * 3 + 1, none⟩ = some (.int .i64 f.n) ∧ w.cell? ⟨b, o + k * 3 + 2, none⟩ = some (.slice f.A f.l.length f.c) := by
  obtain ⟨b', o', e, _, h1⟩ := srcF h hs hk
  obtain ⟨rfl, rfl⟩ : b = b' ∧ o = o' := by simpa using e
  exact h1
theorem one3 (a b c : Value) (h1 : a.oneCell' = true) (h2 : b.oneCell' = true) (h3 : c.oneCell' = true) : ∀ u ∈ [a, b, c], u.oneCell' = true := by simp [h1, h2, h3]
theorem Rd.take8 {w : World} {B : Nat} {A : Option Addr} {l : List UInt8} (h : Rd w B 1 A l.length (by8 l)) (N : Nat) : Rd w B 1 A (l.take N).length (by8 (l.take N)) := by
  refine ⟨by simp [by8], fun hn => ?_⟩
  obtain ⟨b, o, e, hb, hc⟩ := h.2 (by simp at hn; omega)
  refine ⟨b, o, e, hb, fun j u hu => hc j u ?_⟩
  rw [by8_take, List.getElem?_take] at hu
  split at hu
  · exact hu
  · cases hu

theorem toRel_next {W w3 : World} {bl : Bl} {ow : List Ro} {gs fs : List Fd} {k : Nat} {g : Fd} {L c2 c3 : Nat} {A2 A3 : Option Addr} (hg : gs[k]? = some g) (hL : (g.l.take 520).length = L) (hfl : fs.length = k)
    (hcut : ∀ (i : Nat) (g f : Fd), gs[i]? = some g → fs[i]? = some f → cutF g f)
    (s3 : Mst W w3 bl ([⟨5, 1, .slice A2 (0 + L) c2, 0 + L, List.take (0 * 1) [] ++ by8 (g.l.take 520)⟩] ++ ⟨39, 3, .slice A3 (k + 1) c3, k + 1, fcs fs ++ [.int .i64 g.s, .int .i64 g.n, .slice A2 L c2]⟩ :: (fs.reverse.map brow ++ ow))) :
    ToRel W bl ow gs (k + 1) (.slice A3 (k + 1) c3) w3 := by
  subst hL
  rw [Nat.zero_add] at s3
  refine ⟨fs ++ [⟨g.s, g.n, A2, c2, g.l.take 520⟩], by simp [hfl], fun i g' f' h1 h2 => ?_, ?_⟩
  · by_cases hi : i < fs.length
    · exact hcut i g' f' h1 (by rwa [List.getElem?_append_left hi] at h2)
    · have hi2 : i < (fs ++ [(⟨g.s, g.n, A2, c2, g.l.take 520⟩ : Fd)]).length := (List.getElem?_eq_some_iff.mp h2).1
      have hik : i = fs.length := by simp at hi2; omega
      subst hik
      rw [hfl, hg] at h1
      cases h1
      rw [List.getElem?_append_right (Nat.le_refl _), Nat.sub_self] at h2
      cases h2
      exact ⟨rfl, rfl, rfl⟩
  · have h := s3.frontr [_]
    rw [fcs_snoc, List.reverse_append, List.map_append]
    exact h

set_option maxRecDepth 100000 in
set_option maxHeartbeats 3200000 in
theorem to04_any (W w : World) (bl : Bl) (ow : List Ro) (hM : Mst W w bl ow) (gs : List Fd) (A : Option Addr) (c : Nat) (hgs : Src W bl ow 3 A gs.length (fcs gs))
    (hb : ∀ g ∈ gs, Src W bl ow 1 g.A g.l.length (by8 g.l) ∧ g.l.length ≤ g.c ∧ g.c ≤ 9223372036854775807) (hn : gs.length ≤ 9223372036854775807) (N : Nat) (hN : N = min gs.length 12) :
    Calls Try.prog 15 #[.slice A gs.length c] w fun e w' => ∃ v, e = .returned v ∧ ToRel W bl ow gs N v w' := by
  have hN1 : N ≤ 12 := by omega
  have hN2 : N ≤ gs.length := by omega
  have HN := Lib.hid (show N = gs.length ∨ N = 12 by omega)
  have HM := Lib.hid hM
  have H1 := Lib.hid hgs
  have H2 := Lib.hid hb
  clear hM hgs hb hN
  go_enter Try.func15, Try.ntmps15
  go_wp2_with fail
  go_loopg [3, 4] N (fun gg s3 s4 wr => ∃ k : Nat, k + gg = N ∧ s4 = .int .i64 k ∧ ToRel W bl ow gs k s3 wr)
  case atStart => exact ⟨0, by omega, rfl, [], rfl, by simp, HM.out.nilrow _ _⟩
  case round =>
    obtain ⟨k, hk, rfl, fs, hfl, hcut, m⟩ := hrel
    by_cases hlt : k < N
    · obtain ⟨g, hg⟩ : ∃ g, gs[k]? = some g := ⟨_, List.getElem?_eq_getElem (by omega)⟩
      have hsub : ∀ y ∈ ow, y ∈ (⟨39, 3, u3, k, fcs fs⟩ : Ro) :: (fs.reverse.map brow ++ ow) := fun y hy => List.mem_cons_of_mem _ (List.mem_append_right _ hy)
      obtain ⟨b, o, rfl, hbl, d0, d1, d2⟩ := srcF m (H1.out.sub (fun _ h => h) hsub) hg
      obtain ⟨gb, gl, gc⟩ := H2.out g (List.mem_of_getElem? hg)
      have m5 : (g.l.take 520).length = min 520 g.l.length := by simp
      obtain ⟨L, hL⟩ : ∃ L, (g.l.take 520).length = L := ⟨_, rfl⟩
      obtain ⟨G, hG⟩ : ∃ G, g.l.length = G := ⟨_, rfl⟩
      have hLG : (G ≤ 520 ∧ L = G) ∨ (520 < G ∧ L = 520) := by omega
      have hLG2 : L ≤ 520 := by omega
      rw [hG] at gl d2
      have hme := (m.newrow 5 1 0 0 #[] (Nat.le_refl _) (by decide) rfl).drew
      have hsr := (hme.src (gb.sub (fun _ h => h) (fun y hy => List.mem_cons_of_mem _ (hsub y hy)))).take8 520
      rw [hL] at hsr
      have HSR := Lib.hid hsr
      have HME := Lib.hid hme
      have M := Lib.hid m
      have HG := Lib.hid hg
      have HFL := Lib.hid hfl
      have HCUT := Lib.hid hcut
      have HL := Lib.hid hL
      have HSRC := Lib.hid (fun (w' : World) (bl' : Bl) (ow' : List Ro) (hm : Mst W w' bl' ow') (h1 : ∀ x ∈ bl, x ∈ bl') (h2 : ∀ y ∈ ow, y ∈ ow') => show w'.cell? ⟨b, o + k * 3, none⟩ = some (.int .i64 g.s) ∧ w'.cell? ⟨b, o + k * 3 + 1, none⟩ = some (.int .i64 g.n) ∧ w'.cell? ⟨b, o + k * 3 + 2, none⟩ = some (.slice g.A G g.c) from by have := srcC hm (H1.out.sub h1 h2) hg; rw [hG] at this; exact this)
      have i1 : (k : Int) < (gs.length : Int) := by omega
      have i2 : (0 : Int) ≤ (k : Int) := by omega
      have i3 : (k : Int) < 12 := by omega
      clear m hme hsr hg hfl hcut hL hG gb m5 hn hN1 hN2
      rcases hLG with ⟨h5, h6⟩ | ⟨h5, h6⟩
      · subst h6
        have i4 : (0 : Int) ≤ (L : Int) := by omega
        have i5 : (L : Int) ≤ 520 := by omega
        have hm : min (L : Int) 520 = (L : Int) := by omega
        have i6 : (L : Int) ≤ (g.c : Int) := by omega
        have hd : decide (520 < (L : Int)) = false := by simp; omega
        have i8 : (0 : Int) < (g.c : Int) ∨ (g.c = 0 ∧ L = 0) := by omega
        rcases i8 with i8 | ⟨i8, rfl⟩
        · have i9 : (g.c == 0) = false := by rw [beq_eq_false_iff_ne]; omega
          have i10 : ¬ g.c = 0 := by omega
          go_wp2_with fail
          go_region_held3 (fun w' => w'.cell? ⟨b, o + k * 3, none⟩ = some (.int .i64 g.s) ∧ w'.cell? ⟨b, o + k * 3 + 1, none⟩ = some (.int .i64 g.n) ∧ w'.cell? ⟨b, o + k * 3 + 2, none⟩ = some (.slice g.A L g.c))
            (first | go_keep | (refine ⟨?_, ?_, ?_⟩ <;> assumption))
            (first
              | (refine step_appM rfl _ _ 26 rfl [] HME.out el_u8 rfl _ _ _ _ (by8 (g.l.take 520)) rfl HSR.out (by8_one _) (by unfold maxLen; omega) (by omega) ?_; intro A2 c2 w2 s2; obtain ⟨q0, q1, q2⟩ := HSRC.out w2 _ _ s2 (fun _ h => h) (fun y hy => List.mem_cons_of_mem _ (List.mem_cons_of_mem _ (List.mem_append_right _ hy))); have S2 := Lib.hid s2; clear s2)
              | (refine step_appM rfl _ _ 23 rfl [_] (Mst.alloc S2.out _) el_field rfl _ _ 1 1 [.int .i64 g.s, .int .i64 g.n, .slice A2 L c2] rfl (Rd.new1 _ #[.int .i64 g.s, .int .i64 g.n, .slice A2 L c2] _ rfl) (one3 _ _ _ rfl rfl rfl) (by unfold maxLen; omega) (by omega) ?_; intro A3 c3 w3 s3; obtain ⟨q0, q1, q2⟩ := HSRC.out w3 _ _ s3 (fun _ h => h) (fun y hy => List.mem_append_right _ (List.mem_cons_of_mem _ (List.mem_append_right _ hy))); have S3 := Lib.hid s3; clear s3))
          all_goals (
            go_wp2_with fail
            go_roundg (N - (k + 1))
            case measure => exact (by omega)
            case rel => exact ⟨k + 1, by omega, by go_num, toRel_next HG.out HL.out HFL.out HCUT.out S3.out⟩)
        · have i9 : (g.c == 0) = true := by rw [beq_iff_eq]; exact i8
          have hm0 : min (0 : Int) 520 = 0 := by omega
          have hm1 : min ((0 : Nat) : Int) 520 = 0 := by omega
          go_wp2_with fail
          go_region_held3 (fun w' => w'.cell? ⟨b, o + k * 3, none⟩ = some (.int .i64 g.s) ∧ w'.cell? ⟨b, o + k * 3 + 1, none⟩ = some (.int .i64 g.n) ∧ w'.cell? ⟨b, o + k * 3 + 2, none⟩ = some (.slice g.A 0 g.c))
            (first | go_keep | (refine ⟨?_, ?_, ?_⟩ <;> assumption))
            (first
              | (refine step_appM rfl _ _ 26 rfl [] HME.out el_u8 rfl _ _ _ _ (by8 (g.l.take 520)) rfl HSR.out (by8_one _) (by unfold maxLen; omega) (by omega) ?_; intro A2 c2 w2 s2; obtain ⟨q0, q1, q2⟩ := HSRC.out w2 _ _ s2 (fun _ h => h) (fun y hy => List.mem_cons_of_mem _ (List.mem_cons_of_mem _ (List.mem_append_right _ hy))); have S2 := Lib.hid s2; clear s2)
              | (refine step_appM rfl _ _ 23 rfl [_] (Mst.alloc S2.out _) el_field rfl _ _ 1 1 [.int .i64 g.s, .int .i64 g.n, .slice A2 0 c2] rfl (Rd.new1 _ #[.int .i64 g.s, .int .i64 g.n, .slice A2 0 c2] _ rfl) (one3 _ _ _ rfl rfl rfl) (by unfold maxLen; omega) (by omega) ?_; intro A3 c3 w3 s3; obtain ⟨q0, q1, q2⟩ := HSRC.out w3 _ _ s3 (fun _ h => h) (fun y hy => List.mem_append_right _ (List.mem_cons_of_mem _ (List.mem_append_right _ hy))); have S3 := Lib.hid s3; clear s3))
          all_goals (
            go_wp2_with fail
            go_roundg (N - (k + 1))
            case measure => exact (by omega)
            case rel => exact ⟨k + 1, by omega, by go_num, toRel_next HG.out HL.out HFL.out HCUT.out S3.out⟩)
      · subst h6
        have i4 : (0 : Int) ≤ (G : Int) := by omega
        have i5 : (520 : Int) < (G : Int) := by omega
        have hm : min (G : Int) 520 = (520 : Int) := by omega
        have i6 : (G : Int) ≤ (g.c : Int) := by omega
        have i7 : (520 : Int) ≤ (g.c : Int) := by omega
        have hd : decide (520 < (G : Int)) = true := by simp; omega
        go_wp2_with fail
        go_region_held3 (fun w' => w'.cell? ⟨b, o + k * 3, none⟩ = some (.int .i64 g.s) ∧ w'.cell? ⟨b, o + k * 3 + 1, none⟩ = some (.int .i64 g.n) ∧ w'.cell? ⟨b, o + k * 3 + 2, none⟩ = some (.slice g.A G g.c))
          (first | go_keep | (refine ⟨?_, ?_, ?_⟩ <;> assumption))
          (first
            | (refine step_appM rfl _ _ 26 rfl [] HME.out el_u8 rfl _ _ _ _ (by8 (g.l.take 520)) rfl HSR.out (by8_one _) (by unfold maxLen; omega) (by omega) ?_; intro A2 c2 w2 s2; obtain ⟨q0, q1, q2⟩ := HSRC.out w2 _ _ s2 (fun _ h => h) (fun y hy => List.mem_cons_of_mem _ (List.mem_cons_of_mem _ (List.mem_append_right _ hy))); have S2 := Lib.hid s2; clear s2)
            | (refine step_appM rfl _ _ 23 rfl [_] (Mst.alloc S2.out _) el_field rfl _ _ 1 1 [.int .i64 g.s, .int .i64 g.n, .slice A2 520 c2] rfl (Rd.new1 _ #[.int .i64 g.s, .int .i64 g.n, .slice A2 520 c2] _ rfl) (one3 _ _ _ rfl rfl rfl) (by unfold maxLen; omega) (by omega) ?_; intro A3 c3 w3 s3; obtain ⟨q0, q1, q2⟩ := HSRC.out w3 _ _ s3 (fun _ h => h) (fun y hy => List.mem_append_right _ (List.mem_cons_of_mem _ (List.mem_append_right _ hy))); have S3 := Lib.hid s3; clear s3))
        all_goals (
          go_wp2_with fail
          go_roundg (N - (k + 1))
          case measure => exact (by omega)
          case rel => exact ⟨k + 1, by omega, by go_num, toRel_next HG.out HL.out HFL.out HCUT.out S3.out⟩)
    · have hkN : k = N := by omega
      subst hkN
      have i1 : ¬ ((k : Int) < (gs.length : Int)) ∨ ¬ ((k : Int) < 12) := by have := HN.out; omega
      have M := Lib.hid m
      have HFL := Lib.hid hfl
      have HCUT := Lib.hid hcut
      have HH := Lib.hid hk
      clear m hfl hcut hk hN1 hN2
      go_wp2_with fail
      all_goals (
        go_ret
        exact ⟨_, rfl, fs, HFL.out, HCUT.out, M.out⟩)
end Go.Proofs.Ythnaobolmgcclaa
