/- The law's To (steps). -/
import Derived.Test.YtnopmdhjamkoaaaDoorSd
import Derived.Test.YtnopmdhjamkoaaaDoorBaseB
import Derived.Lib.MinMax
namespace Go.Proofs.YtnopmdhjamkoaaaDoor
set_option linter.unusedVariables false
set_option linter.unusedSimpArgs false
open Go.RowKit

/-- A step with its bytes. -/
structure Sb where
  k : Int
  who : Int
  n : Int
  A : Option Addr
  c : Nat
  l : List UInt8
abbrev Sb.st (e : Sb) : St := ⟨e.k, e.who, e.n, e.A, e.l.length, e.c⟩
/-- The row of a step's bytes. -/
def brow (f : Sb) : Ro := ⟨5, 1, .slice f.A f.l.length f.c, f.l.length, by8 f.l⟩
def To31 (W : World) (bl : Bl) (ow : List Ro) (k : Nat) (v : Value) (w : World) : Prop :=
  ∃ fs : List Sb, fs.length = k ∧ (∀ f ∈ fs, f.l.length ≤ 410) ∧ Mst W w bl (⟨62, 4, v, k, sts (fs.map Sb.st)⟩ :: (fs.reverse.map brow ++ ow))
theorem el_u8 : El Tryd.prog 60 5 1 1 := El.of Tryd.underlying60 (z := .int .u8 0) (by kernel_rfl) rfl (by decide)
theorem by8_takeS (l : List UInt8) (n : Nat) : by8 (l.take n) = (by8 l).take n := by simp [by8, List.map_take]
theorem Rd.take8 {w : World} {B : Nat} {A : Option Addr} {l : List UInt8} (h : Rd w B 1 A l.length (by8 l)) (N : Nat) : Rd w B 1 A (l.take N).length (by8 (l.take N)) := by
  refine ⟨by simp [by8], fun hn => ?_⟩
  obtain ⟨b, o, e, hb, hc⟩ := h.2 (by simp at hn; omega)
  refine ⟨b, o, e, hb, fun j u hu => hc j u ?_⟩
  rw [by8_takeS, List.getElem?_take] at hu
  split at hu
  · exact hu
  · cases hu
theorem srcF4 {W w : World} {bl : Bl} {ow : List Ro} {A : Option Addr} {gs : List Sb} {g : Sb} {k : Nat} (h : Mst W w bl ow) (hs : Src W bl ow 4 A gs.length (sts (gs.map Sb.st))) (hk : gs[k]? = some g) :
    ∃ b o, A = some ⟨b, o, none⟩ ∧ b < w.heap.size ∧ w.cell? ⟨b, o + k * 4, none⟩ = some (.int .i64 g.k) ∧ w.cell? ⟨b, o + k * 4 + 1, none⟩ = some (.int .i64 g.who) ∧ w.cell? ⟨b, o + k * 4 + 2, none⟩ = some (.int .i64 g.n) ∧ w.cell? ⟨b, o + k * 4 + 3, none⟩ = some (.slice g.A g.l.length g.c) := by
  have hr := h.src hs
  have hl : (gs.map Sb.st).length = gs.length := by simp
  rw [← hl] at hr
  obtain ⟨b, o, e1, e2, e3⟩ := hr.stAt (e := g.st) (k := k) (by simp [hk])
  exact ⟨b, o, e1, e2, e3⟩
theorem srcC4 {W w : World} {bl : Bl} {ow : List Ro} {b o : Nat} {gs : List Sb} (h : Mst W w bl ow) (hs : Src W bl ow 4 (some ⟨b, o, none⟩) gs.length (sts (gs.map Sb.st))) {k : Nat} {g : Sb} (hk : gs[k]? = some g) :
    w.cell? ⟨b, o + k * 4, none⟩ = some (.int .i64 g.k) ∧ w.cell? ⟨b, o + k * 4 + 1, none⟩ = some (.int .i64 g.who) ∧ w.cell? ⟨b, o + k * 4 + 2, none⟩ = some (.int .i64 g.n) ∧ w.cell? ⟨b, o + k * 4 + 3, none⟩ = some (.slice g.A g.l.length g.c) := by
  obtain ⟨b', o', e, _, h1⟩ := srcF4 h hs hk
  obtain ⟨rfl, rfl⟩ : b = b' ∧ o = o' := by simpa using e
  exact h1
theorem to31_next {W w3 : World} {bl : Bl} {ow : List Ro} {fs : List Sb} {k : Nat} {gk gwho gn : Int} {gl : List UInt8} {L c2 c3 : Nat} {A2 A3 : Option Addr} (hL : (gl.take 410).length = L) (hfl : fs.length = k)
    (hcut : ∀ f ∈ fs, f.l.length ≤ 410)
    (s3 : Mst W w3 bl ([⟨5, 1, .slice A2 (0 + L) c2, 0 + L, List.take (0 * 1) [] ++ by8 (gl.take 410)⟩] ++ ⟨62, 4, .slice A3 (k + 1) c3, k + 1, sts (fs.map Sb.st) ++ [.int .i64 gk, .int .i64 gwho, .int .i64 gn, .slice A2 L c2]⟩ :: (fs.reverse.map brow ++ ow))) :
    To31 W bl ow (k + 1) (.slice A3 (k + 1) c3) w3 := by
  subst hL
  rw [Nat.zero_add] at s3
  refine ⟨fs ++ [⟨gk, gwho, gn, A2, c2, gl.take 410⟩], by simp [hfl], fun f hf => ?_, ?_⟩
  · rcases List.mem_append.1 hf with hf | hf
    · exact hcut f hf
    · obtain rfl : f = ⟨gk, gwho, gn, A2, c2, gl.take 410⟩ := by simpa using hf
      simp; omega
  · have h := s3.frontr [_]
    rw [List.map_append, List.map_cons, List.map_nil, sts_snoc, List.reverse_append, List.map_append]
    exact h

set_option maxRecDepth 100000 in
set_option maxHeartbeats 3200000 in
theorem to31_any (W w : World) (bl : Bl) (ow : List Ro) (hM : Mst W w bl ow) (gs : List Sb) (A : Option Addr) (c : Nat) (hgs : Src W bl ow 4 A gs.length (sts (gs.map Sb.st)))
    (hb : ∀ g ∈ gs, Src W bl ow 1 g.A g.l.length (by8 g.l) ∧ g.l.length ≤ g.c ∧ g.c ≤ 9223372036854775807) (hn : gs.length ≤ 9223372036854775807) (N : Nat) (hN : N = min gs.length 34) :
    Calls Tryd.prog 31 #[.slice A gs.length c] w fun e w' => ∃ v, e = .returned v ∧ To31 W bl ow N v w' := by
  have hN1 : N ≤ 34 := by omega
  have hN2 : N ≤ gs.length := by omega
  have HN := Lib.hid (show N = gs.length ∨ N = 34 by omega)
  have HM := Lib.hid hM
  have H1 := Lib.hid hgs
  have H2 := Lib.hid hb
  clear hM hgs hb hN
  go_enter Tryd.func31, Tryd.ntmps31
  go_wp2_with fail
  go_loopg [3, 4] N (fun gg s3 s4 wr => ∃ k : Nat, k + gg = N ∧ s4 = .int .i64 k ∧ To31 W bl ow k s3 wr)
  case atStart => exact ⟨0, by omega, rfl, [], rfl, by simp, HM.out.nilrow _ _⟩
  case round =>
    obtain ⟨k, hk, rfl, fs, hfl, hcut, m⟩ := hrel
    by_cases hlt : k < N
    · obtain ⟨g, hg⟩ : ∃ g, gs[k]? = some g := ⟨_, List.getElem?_eq_getElem (by omega)⟩
      have hsub : ∀ y ∈ ow, y ∈ (⟨62, 4, u3, k, sts (fs.map Sb.st)⟩ : Ro) :: (fs.reverse.map brow ++ ow) := fun y hy => List.mem_cons_of_mem _ (List.mem_append_right _ hy)
      obtain ⟨b, o, rfl, hbl, d0, d1, d9, d2⟩ := srcF4 m (H1.out.sub (fun _ h => h) hsub) hg
      obtain ⟨gb, gl, gc⟩ := H2.out g (List.mem_of_getElem? hg)
      have m5 : (g.l.take 410).length = min 410 g.l.length := by simp
      obtain ⟨L, hL⟩ : ∃ L, (g.l.take 410).length = L := ⟨_, rfl⟩
      obtain ⟨G, hG⟩ : ∃ G, g.l.length = G := ⟨_, rfl⟩
      have hLG : (G ≤ 410 ∧ L = G) ∨ (410 < G ∧ L = 410) := by omega
      have hLG2 : L ≤ 410 := by omega
      rw [hG] at gl d2
      have hme := (m.newrow 5 1 0 0 #[] (Nat.le_refl _) (by decide) rfl).drew
      have hsr := (hme.src (gb.sub (fun _ h => h) (fun y hy => List.mem_cons_of_mem _ (hsub y hy)))).take8 410
      rw [hL] at hsr
      have HSR := Lib.hid hsr
      have HME := Lib.hid hme
      have M := Lib.hid m
      have HG := Lib.hid hg
      have HFL := Lib.hid hfl
      have HCUT := Lib.hid hcut
      have HL := Lib.hid hL
      have HSRC := Lib.hid (fun (w' : World) (bl' : Bl) (ow' : List Ro) (hm : Mst W w' bl' ow') (h1 : ∀ x ∈ bl, x ∈ bl') (h2 : ∀ y ∈ ow, y ∈ ow') => show w'.cell? ⟨b, o + k * 4, none⟩ = some (.int .i64 g.k) ∧ w'.cell? ⟨b, o + k * 4 + 1, none⟩ = some (.int .i64 g.who) ∧ w'.cell? ⟨b, o + k * 4 + 2, none⟩ = some (.int .i64 g.n) ∧ w'.cell? ⟨b, o + k * 4 + 3, none⟩ = some (.slice g.A G g.c) from by have := srcC4 hm (H1.out.sub h1 h2) hg; rw [hG] at this; exact this)
      have i1 : (k : Int) < (gs.length : Int) := by omega
      have i2 : (0 : Int) ≤ (k : Int) := by omega
      have i3 : (k : Int) < 34 := by omega
      clear m hme hsr hg hfl hcut hL hG gb m5 hn hN1 hN2
      rcases hLG with ⟨h5, h6⟩ | ⟨h5, h6⟩
      · subst h6
        have i4 : (0 : Int) ≤ (L : Int) := by omega
        have i5 : (L : Int) ≤ 410 := by omega
        have hm : min (L : Int) 410 = (L : Int) := by omega
        have i6 : (L : Int) ≤ (g.c : Int) := by omega
        have hd : decide (410 < (L : Int)) = false := by simp; omega
        have i8 : (0 : Int) < (g.c : Int) ∨ (g.c = 0 ∧ L = 0) := by omega
        rcases i8 with i8 | ⟨i8, rfl⟩
        · have i9 : (g.c == 0) = false := by rw [beq_eq_false_iff_ne]; omega
          have i10 : ¬ g.c = 0 := by omega
          go_wp2_with fail
          go_region_held3 (fun w' => w'.cell? ⟨b, o + k * 4, none⟩ = some (.int .i64 g.k) ∧ w'.cell? ⟨b, o + k * 4 + 1, none⟩ = some (.int .i64 g.who) ∧ w'.cell? ⟨b, o + k * 4 + 2, none⟩ = some (.int .i64 g.n) ∧ w'.cell? ⟨b, o + k * 4 + 3, none⟩ = some (.slice g.A L g.c))
            (first | go_keep | (refine ⟨?_, ?_, ?_, ?_⟩ <;> assumption))
            (first
              | (refine step_appM rfl _ _ 60 rfl [] HME.out el_u8 rfl _ _ _ _ (by8 (g.l.take 410)) rfl HSR.out (by8_one _) (by unfold maxLen; omega) (by omega) ?_; intro A2 c2 w2 s2; obtain ⟨q0, q1, q2, q3⟩ := HSRC.out w2 _ _ s2 (fun _ h => h) (fun y hy => List.mem_cons_of_mem _ (List.mem_cons_of_mem _ (List.mem_append_right _ hy))); have S2 := Lib.hid s2; clear s2)
              | (refine step_appM rfl _ _ 54 rfl [_] (Mst.alloc S2.out _) el_step rfl _ _ 1 1 [.int .i64 g.k, .int .i64 g.who, .int .i64 g.n, .slice A2 L c2] rfl (Rd.new1 _ #[.int .i64 g.k, .int .i64 g.who, .int .i64 g.n, .slice A2 L c2] _ rfl) (four_one _ _ _ _ _ _) (by unfold maxLen; omega) (by omega) ?_; intro A3 c3 w3 s3; obtain ⟨q0, q1, q2, q3⟩ := HSRC.out w3 _ _ s3 (fun _ h => h) (fun y hy => List.mem_append_right _ (List.mem_cons_of_mem _ (List.mem_append_right _ hy))); have S3 := Lib.hid s3; clear s3))
          all_goals (
            go_wp2_with fail
            go_roundg (N - (k + 1))
            case measure => exact (by omega)
            case rel => exact ⟨k + 1, by omega, by go_num, to31_next HL.out HFL.out HCUT.out S3.out⟩)
        · have i9 : (g.c == 0) = true := by rw [beq_iff_eq]; exact i8
          have hm0 : min (0 : Int) 410 = 0 := by omega
          have hm1 : min ((0 : Nat) : Int) 410 = 0 := by omega
          go_wp2_with fail
          go_region_held3 (fun w' => w'.cell? ⟨b, o + k * 4, none⟩ = some (.int .i64 g.k) ∧ w'.cell? ⟨b, o + k * 4 + 1, none⟩ = some (.int .i64 g.who) ∧ w'.cell? ⟨b, o + k * 4 + 2, none⟩ = some (.int .i64 g.n) ∧ w'.cell? ⟨b, o + k * 4 + 3, none⟩ = some (.slice g.A 0 g.c))
            (first | go_keep | (refine ⟨?_, ?_, ?_, ?_⟩ <;> assumption))
            (first
              | (refine step_appM rfl _ _ 60 rfl [] HME.out el_u8 rfl _ _ _ _ (by8 (g.l.take 410)) rfl HSR.out (by8_one _) (by unfold maxLen; omega) (by omega) ?_; intro A2 c2 w2 s2; obtain ⟨q0, q1, q2, q3⟩ := HSRC.out w2 _ _ s2 (fun _ h => h) (fun y hy => List.mem_cons_of_mem _ (List.mem_cons_of_mem _ (List.mem_append_right _ hy))); have S2 := Lib.hid s2; clear s2)
              | (refine step_appM rfl _ _ 54 rfl [_] (Mst.alloc S2.out _) el_step rfl _ _ 1 1 [.int .i64 g.k, .int .i64 g.who, .int .i64 g.n, .slice A2 0 c2] rfl (Rd.new1 _ #[.int .i64 g.k, .int .i64 g.who, .int .i64 g.n, .slice A2 0 c2] _ rfl) (four_one _ _ _ _ _ _) (by unfold maxLen; omega) (by omega) ?_; intro A3 c3 w3 s3; obtain ⟨q0, q1, q2, q3⟩ := HSRC.out w3 _ _ s3 (fun _ h => h) (fun y hy => List.mem_append_right _ (List.mem_cons_of_mem _ (List.mem_append_right _ hy))); have S3 := Lib.hid s3; clear s3))
          all_goals (
            go_wp2_with fail
            go_roundg (N - (k + 1))
            case measure => exact (by omega)
            case rel => exact ⟨k + 1, by omega, by go_num, to31_next HL.out HFL.out HCUT.out S3.out⟩)
      · subst h6
        have i4 : (0 : Int) ≤ (G : Int) := by omega
        have i5 : (410 : Int) < (G : Int) := by omega
        have hm : min (G : Int) 410 = (410 : Int) := by omega
        have i6 : (G : Int) ≤ (g.c : Int) := by omega
        have i7 : (410 : Int) ≤ (g.c : Int) := by omega
        have hd : decide (410 < (G : Int)) = true := by simp; omega
        go_wp2_with fail
        go_region_held3 (fun w' => w'.cell? ⟨b, o + k * 4, none⟩ = some (.int .i64 g.k) ∧ w'.cell? ⟨b, o + k * 4 + 1, none⟩ = some (.int .i64 g.who) ∧ w'.cell? ⟨b, o + k * 4 + 2, none⟩ = some (.int .i64 g.n) ∧ w'.cell? ⟨b, o + k * 4 + 3, none⟩ = some (.slice g.A G g.c))
          (first | go_keep | (refine ⟨?_, ?_, ?_, ?_⟩ <;> assumption))
          (first
            | (refine step_appM rfl _ _ 60 rfl [] HME.out el_u8 rfl _ _ _ _ (by8 (g.l.take 410)) rfl HSR.out (by8_one _) (by unfold maxLen; omega) (by omega) ?_; intro A2 c2 w2 s2; obtain ⟨q0, q1, q2, q3⟩ := HSRC.out w2 _ _ s2 (fun _ h => h) (fun y hy => List.mem_cons_of_mem _ (List.mem_cons_of_mem _ (List.mem_append_right _ hy))); have S2 := Lib.hid s2; clear s2)
            | (refine step_appM rfl _ _ 54 rfl [_] (Mst.alloc S2.out _) el_step rfl _ _ 1 1 [.int .i64 g.k, .int .i64 g.who, .int .i64 g.n, .slice A2 410 c2] rfl (Rd.new1 _ #[.int .i64 g.k, .int .i64 g.who, .int .i64 g.n, .slice A2 410 c2] _ rfl) (four_one _ _ _ _ _ _) (by unfold maxLen; omega) (by omega) ?_; intro A3 c3 w3 s3; obtain ⟨q0, q1, q2, q3⟩ := HSRC.out w3 _ _ s3 (fun _ h => h) (fun y hy => List.mem_append_right _ (List.mem_cons_of_mem _ (List.mem_append_right _ hy))); have S3 := Lib.hid s3; clear s3))
        all_goals (
          go_wp2_with fail
          go_roundg (N - (k + 1))
          case measure => exact (by omega)
          case rel => exact ⟨k + 1, by omega, by go_num, to31_next HL.out HFL.out HCUT.out S3.out⟩)
    · have hkN : k = N := by omega
      subst hkN
      have i1 : ¬ ((k : Int) < (gs.length : Int)) ∨ ¬ ((k : Int) < 34) := by have := HN.out; omega
      have M := Lib.hid m
      have HFL := Lib.hid hfl
      have HCUT := Lib.hid hcut
      have HH := Lib.hid hk
      clear m hfl hcut hk hN1 hN2
      go_wp2_with fail
      all_goals (
        go_ret
        exact ⟨_, rfl, fs, HFL.out, HCUT.out, M.out⟩)
end Go.Proofs.YtnopmdhjamkoaaaDoor
