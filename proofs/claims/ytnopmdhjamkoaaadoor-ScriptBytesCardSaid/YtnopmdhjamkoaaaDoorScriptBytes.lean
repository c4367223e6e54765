/- The law ScriptBytes. -/
import Derived.Test.YtnopmdhjamkoaaaDoorSc27
namespace Go.Proofs.YtnopmdhjamkoaaaDoor
set_option linter.unusedVariables false
set_option linter.unusedSimpArgs false
open Go.RowKit
theorem sbytes_zero {fs : List Sb} (h : (sbytes fs).2 = 0) : fs.length ≤ 32 ∧ (∀ f ∈ fs, f.st.chk = 0) ∧ (encS fs.length fs).length ≤ 1024 ∧ (sbytes fs).1 = encS fs.length fs := by
  by_cases h1 : 32 < fs.length
  · rw [sbytes_long h1] at h
    exact absurd h (by decide)
  · unfold sbytes at h ⊢
    rw [if_neg h1] at h ⊢
    cases hf : fs.find? fun f => decide (f.st.chk ≠ 0) with
    | some f =>
      rw [hf] at h
      have := List.find?_some hf
      simp only [ne_eq, decide_not, Bool.not_eq_eq_eq_not, Bool.not_true, decide_eq_false_iff_not] at this
      exact absurd h this
    | none =>
      rw [hf] at h
      rw [List.find?_eq_none] at hf
      have hok : ∀ f ∈ fs, f.st.chk = 0 := by
        intro f hm
        have := hf f hm
        simpa using this
      simp only at h ⊢
      by_cases h2 : 1024 < (encS fs.length fs).length
      · rw [if_pos h2] at h
        exact absurd h (by decide)
      · rw [if_neg h2]
        exact ⟨by omega, hok, by omega, rfl⟩
theorem Fresh.form {w w' : World} {e size n : Nat} {v : Value} {xs : List Value} (h : Fresh w w' e size v n xs) : ∃ A c, v = .slice A n c := by
  obtain ⟨A, c, rfl, _⟩ := own_form h.own
  exact ⟨A, c, rfl⟩
set_option maxRecDepth 100000 in
set_option maxHeartbeats 8000000 in
theorem scriptBytes_main (W : World) (gs : List Sb) (A : Option Addr) (c : Nat) (hgs : Rd W W.heap.size 4 A gs.length (sts (gs.map Sb.st))) (hb : ∀ g ∈ gs, RB W W.heap.size g.A g.l ∧ g.l.length ≤ g.c ∧ g.c ≤ 9223372036854775807)
    (hn : gs.length ≤ 9223372036854775807) (hT : TabU W) (hP : ∀ w', Below W.heap.size W w' → Tab31 w') :
    Calls Tryd.prog 7 #[.slice A gs.length c] W fun e W' => e = .returned (.bool true) ∧ Below W.heap.size W W' := by
  obtain ⟨N, hN⟩ : ∃ N, N = min gs.length 34 := ⟨_, rfl⟩
  have HTO := Lib.hid (to31_any W W [] [] (Mst.start W) gs A c (Src.old hgs) (fun g hg => ⟨Src.old (hb g hg).1, (hb g hg).2⟩) hn N hN)
  have hN34 : N ≤ 34 := by omega
  have HT := Lib.hid hT
  have HP := Lib.hid hP
  clear hgs hb hN hT hP
  go_enter Tryd.func7, Tryd.ntmps7
  go_wp2_with fail
  with_reducible refine (HTO.out).mono ?_
  rintro r w1 ⟨v, rfl, fs, hfl, hfs, hm⟩
  obtain ⟨Ax, cx, rfl, -, -, hcx, -⟩ := own_form (hm.row [])
  obtain ⟨br, hbr⟩ : ∃ b, fs.reverse.map brow ++ [] = b := ⟨_, rfl⟩
  have HBR := Lib.hid (show ∀ f ∈ fs, brow f ∈ br from fun f hf => by rw [← hbr]; simp; exact ⟨f, hf, rfl⟩)
  rw [hbr] at hm
  have HFL := Lib.hid hfl
  have HFS := Lib.hid hfs
  have HOX := Lib.hid (of31_any W w1 [] _ hm Ax cx (fs.map Sb.st) N (by simpa using hfl) (hm.rowSrc (List.mem_cons_self ..)) (by omega))
  clear hfl hfs hm hbr hcx HTO
  go_wp2_with fail
  with_reducible refine (HOX.out).mono ?_
  rintro r w2 ⟨Ay, cy, rfl, hm⟩
  have HBW := Lib.hid (show ∀ f ∈ fs, brow f ∈ (rRow Ay N cy fs :: sRow Ax N cx fs :: br : List Ro) from fun f hf => by have := HBR.out f hf; simp [this])
  obtain ⟨B, hB⟩ : ∃ B, (sbytes fs).1 = B := ⟨_, rfl⟩
  obtain ⟨E, hE⟩ : ∃ E, (sbytes fs).2 = E := ⟨_, rfl⟩
  obtain ⟨nB, hnB⟩ : ∃ n, B.length = n := ⟨_, rfl⟩
  have HZ := Lib.hid (show E = 0 → N ≤ 32 ∧ (∀ f ∈ fs, f.st.chk = 0) ∧ nB ≤ 1024 ∧ B = encS N fs from fun h => by
    obtain ⟨h1, h2, h3, h4⟩ := sbytes_zero (fs := fs) (by rw [hE]; exact h)
    rw [HFL.out] at h1 h3 h4
    rw [hB] at h4
    exact ⟨h1, h2, by rw [← hnB, h4]; exact h3, h4⟩)
  have HLB := Lib.hid (show nB ≤ 1024 from by
    rw [← hnB, ← hB]
    unfold sbytes
    split
    · simp
    · split
      · simp
      · split
        · simp
        · rename_i h
          simpa using h)
  have HNB := Lib.hid hnB
  have HSB := Lib.hid (show ∀ w' ow', Mst W w' [] ow' → sRow Ax N cx fs ∈ ow' → (∀ f ∈ fs, brow f ∈ ow') → Calls Tryd.prog 45 #[.slice Ax N cx] w' fun r w2 => ∃ A' c', r = .returned (.tuple #[.slice A' nB c', .int .i64 E]) ∧ Mst W w2 [] (⟨5, 1, .slice A' nB c', nB, by8 B⟩ :: ow') from fun w' ow' h hx hbr => by
    refine (sbytes_any w' (HT.out.keep h.bel) fs Ax cx N HFL.out (h.src (h.rowSrc hx)) (fun f hf => h.src (h.rowSrc (hbr f hf))) HFS.out (by omega)).mono ?_
    rintro r w2 ⟨v, rfl, hf⟩
    rw [hB, hnB] at hf
    rw [hE]
    obtain ⟨A', c', rfl⟩ := hf.form
    exact ⟨A', c', rfl, h.addr hf⟩)
  have HRB := Lib.hid (show ∀ w' ow', Mst W w' [] ow' → rRow Ay N cy fs ∈ ow' → (∀ f ∈ fs, brow f ∈ ow') → Calls Tryd.prog 46 #[.slice Ay N cy] w' fun r w2 => ∃ A' c', r = .returned (.tuple #[.slice A' nB c', .int .i64 E]) ∧ Mst W w2 [] (⟨5, 1, .slice A' nB c', nB, by8 B⟩ :: ow') from fun w' ow' h hy hbr => by
    refine (rbytes31_any w' fs Ay cy N HFL.out (h.src (h.rowSrc hy)) (fun f hf => h.src (h.rowSrc (hbr f hf))) HFS.out (by omega)).mono ?_
    rintro r w2 ⟨v, rfl, hf⟩
    rw [hB, hnB] at hf
    rw [hE]
    obtain ⟨A', c', rfl⟩ := hf.form
    exact ⟨A', c', rfl, h.addr hf⟩)
  have Ma := Lib.hid hm
  clear hm hB hE hnB HOX HBR
  go_wp2_with fail
  with_reducible refine (HSB.out _ _ Ma.out (by simp) HBW.out).mono ?_
  rintro r w3 ⟨Ab, cb, rfl, hm⟩
  have Ma := Lib.hid hm
  clear hm HSB
  go_wp2_with fail
  with_reducible refine (HRB.out _ _ Ma.out (by simp) (fun f hf => List.mem_cons_of_mem _ (HBW.out f hf))).mono ?_
  rintro r w4 ⟨Aw, cw, rfl, hm⟩
  obtain ⟨OW, hOW⟩ : ∃ OW, (⟨5, 1, .slice Aw nB cw, nB, by8 B⟩ :: ⟨5, 1, .slice Ab nB cb, nB, by8 B⟩ :: rRow Ay N cy fs :: sRow Ax N cx fs :: br : List Ro) = OW := ⟨_, rfl⟩
  have hm2 : Mst W w4 [] OW := by rw [← hOW]; exact hm
  have hx : sRow Ax N cx fs ∈ OW := by rw [← hOW]; simp
  have hy : rRow Ay N cy fs ∈ OW := by rw [← hOW]; simp
  have hrb : (⟨5, 1, .slice Ab nB cb, nB, by8 B⟩ : Ro) ∈ OW := by rw [← hOW]; simp
  have hrw : (⟨5, 1, .slice Aw nB cw, nB, by8 B⟩ : Ro) ∈ OW := by rw [← hOW]; simp
  have HBO := Lib.hid (show ∀ f ∈ fs, brow f ∈ OW from fun f hf => by rw [← hOW]; exact List.mem_cons_of_mem _ (List.mem_cons_of_mem _ (HBW.out f hf)))
  have HS01 := Lib.hid (show ∀ w', Mst W w' [] OW → Calls Tryd.prog 47 #[.slice Ab nB cb, .slice Aw nB cw] w' fun r w2 => r = .returned (.bool true) ∧ Below w'.heap.size w' w2 from fun w' h => by
    have q1 : RB w' w'.heap.size Ab B := by unfold RB; rw [HNB.out]; exact h.src (h.rowSrc hrb)
    have q2 : RB w' w'.heap.size Aw B := by unfold RB; rw [HNB.out]; exact h.src (h.rowSrc hrw)
    have := same_yes Ab Aw cb cw B w' q1 q2 (by rw [HNB.out]; unfold maxLen; have := HLB.out; omega)
    rw [HNB.out] at this
    exact this)
  have HEL := Lib.hid (show ∀ (k : Nat) (f : Sb), fs[k]? = some f → (∃ b o b2 o2, Ax = some ⟨b, o, none⟩ ∧ Ay = some ⟨b2, o2, none⟩ ∧ ∀ w', Mst W w' [] OW → StAt w' b o k f.st ∧ StAt w' b2 o2 k f.st) from fun k f hk => by
    obtain ⟨b, o, h1, -, h3⟩ := (hm2.src (hm2.rowSrc hx)).sb HFL.out hk
    obtain ⟨b2, o2, h4, -, h6⟩ := (hm2.src (hm2.rowSrc hy)).sb HFL.out hk
    refine ⟨b, o, b2, o2, h1, h4, fun w' h => ?_⟩
    obtain ⟨b', o', q1, -, q3⟩ := (h.src (h.rowSrc hx)).sb HFL.out hk
    obtain ⟨b2', o2', q4, -, q6⟩ := (h.src (h.rowSrc hy)).sb HFL.out hk
    rw [h1] at q1
    rw [h4] at q4
    injection q1 with q1
    injection q1 with e1 e2 _
    injection q4 with q4
    injection q4 with e3 e4 _
    subst e1 e2 e3 e4
    exact ⟨q3, q6⟩)
  have HSS := Lib.hid (show ∀ w' (k : Nat) (f : Sb), Mst W w' [] OW → fs[k]? = some f → Calls Tryd.prog 48 #[.agg #[.int .i64 f.k, .int .i64 f.who, .int .i64 f.n, .slice f.A f.l.length f.c], .agg #[.int .i64 f.k, .int .i64 f.who, .int .i64 f.n, .slice f.A f.l.length f.c]] w' fun r w2 => r = .returned (.bool true) ∧ Below w'.heap.size w' w2 from fun w' k f h hk =>
    ssame_any w' _ _ _ _ _ _ _ rfl (h.src (h.rowSrc (HBO.out f (List.mem_of_getElem? hk)))))
  have HKN := Lib.hid (show ∀ w' ow', Mst W w' [] ow' → Calls Tryd.prog 36 #[] w' fun r w2 => r = .returned (.bool true) ∧ Below w'.heap.size w' w2 from fun w' ow' h => known31_any w' (HT.out.keep h.bel) fun w2 hb => HP.out w2 (h.below hb).bel)
  have HPA := Lib.hid (show E = 0 → ∀ w', Mst W w' [] OW → Calls Tryd.prog 49 #[.slice Ab nB cb] w' fun r w' => ∃ (A' : Option Addr) (c' : Nat) (gs : List Sb), r = .returned (.tuple #[.slice A' N c', .int .i64 0]) ∧ gs.length = N ∧ gs.map Sb.key = fs.map Sb.key ∧ Mst W w' [] (sRow A' N c' gs :: (gs.reverse.map brow ++ OW)) from fun hE w' h => by
    obtain ⟨z1, z2, z3, z4⟩ := HZ.out hE
    have q1 : RB w' w'.heap.size Ab (encS N fs) := by rw [← z4]; unfold RB; rw [HNB.out]; exact h.src (h.rowSrc hrb)
    exact sparse_any W w' [] OW h HT.out fs N HFL.out z1 z2 Ab cb nB (by rw [← z4]; exact HNB.out) z3 q1)
  have HSM := Lib.hid (show ∀ w' A1 c1 A2 c2 (gs : List Sb), gs.length = N → gs.map Sb.key = fs.map Sb.key → Mst W w' [] (rRow A1 N c1 gs :: sRow A2 N c2 gs :: (gs.reverse.map brow ++ OW)) → Calls Tryd.prog 33 #[.slice A1 N c1, .slice Ay N cy] w' fun r w2 => r = .returned (.bool true) ∧ Below w'.heap.size w' w2 from fun w' A1 c1 A2 c2 gs hgl hgk h => by
    have hb1 : ∀ x ∈ gs, RB w' w'.heap.size x.A x.l := fun x hx => h.src (h.rowSrc (List.mem_cons_of_mem _ (List.mem_cons_of_mem _ (List.mem_append_left _ (List.mem_map.2 ⟨x, by simpa using hx, rfl⟩)))))
    have hb2 : ∀ x ∈ fs, RB w' w'.heap.size x.A x.l := fun x hx => h.src (h.rowSrc (List.mem_cons_of_mem _ (List.mem_cons_of_mem _ (List.mem_append_right _ (HBO.out x hx)))))
    have hkey : ∀ (i : Nat) (x y : Sb), gs[i]? = some x → fs[i]? = some y → x.key = y.key := by
      intro i x y hx hy
      have h1 : (gs.map Sb.key)[i]? = some x.key := by simp [hx]
      have h2 : (fs.map Sb.key)[i]? = some y.key := by simp [hy]
      rw [hgk, h2] at h1
      injection h1 with h1
      exact h1.symm
    refine rsame31_any w' A1 Ay N c1 cy gs fs hgl HFL.out (h.src (h.rowSrc (List.mem_cons_self ..))) (h.src (h.rowSrc (List.mem_cons_of_mem _ (List.mem_cons_of_mem _ (List.mem_append_right _ hy))))) hb1 hb2 (fun i x y hx hy => ?_) (fun x hx => ?_) (by omega)
    · have := hkey i x y hx hy
      simp only [Sb.key, Prod.mk.injEq] at this
      exact this
    · obtain ⟨i, hi⟩ := List.getElem?_of_mem hx
      have hlt := (List.getElem?_eq_some_iff.1 hi).1
      obtain ⟨y, hy⟩ : ∃ y, fs[i]? = some y := ⟨_, List.getElem?_eq_getElem (by rw [HFL.out]; omega)⟩
      have := hkey i x y hi hy
      simp only [Sb.key, Prod.mk.injEq] at this
      rw [this.2.2.2]
      have := HFS.out y (List.mem_of_getElem? hy)
      omega)
  have HOG := Lib.hid (show ∀ w' A1 c1 (gs : List Sb) ow', gs.length = N → Mst W w' [] (sRow A1 N c1 gs :: ow') → Calls Tryd.prog 34 #[.slice A1 N c1] w' fun r w2 => ∃ A' c', r = .returned (.slice A' N c') ∧ Mst W w2 [] (rRow A' N c' gs :: sRow A1 N c1 gs :: ow') from fun w' A1 c1 gs ow' hgl h =>
    of31_any W w' [] _ h A1 c1 (gs.map Sb.st) N (by simpa using hgl) (h.rowSrc (List.mem_cons_self ..)) (by omega))
  have Mz := Lib.hid hm2
  have i2 : (N : Int) ≤ 34 := by omega
  have e1 : (E != E) = false := by simp
  clear hm hm2 hx hy hrb hrw hOW HRB Ma
  go_wp2_with fail
  with_reducible refine (HS01.out _ Mz.out).mono ?_
  rintro r w5 ⟨rfl, hb⟩
  have Mz := Lib.hid (Mz.out.below hb)
  clear hb
  go_wp2_with fail
  go_loopg [9] N (fun gg s9 wr => ∃ k : Nat, k + gg = N ∧ s9 = .int .i64 k ∧ Mst W wr [] OW)
  case atStart => exact ⟨0, by omega, rfl, Mz.out⟩
  case round =>
    obtain ⟨k, hk, rfl, hm⟩ := hrel
    have Mq := Lib.hid hm
    clear Mz hm
    by_cases hlt : k < N
    · obtain ⟨f, hf⟩ : ∃ e, fs[k]? = some e := ⟨_, List.getElem?_eq_getElem (by rw [HFL.out]; exact hlt)⟩
      obtain ⟨b, o, b2, o2, hA, hA2, hp⟩ := HEL.out k f hf
      have HS1 := Lib.hid (show ∀ w', Mst W w' [] OW → _ from fun w' h => (HSS.out w' k f h hf))
      obtain ⟨L, hL⟩ : ∃ L, f.l.length = L := ⟨_, rfl⟩
      obtain ⟨C, hC⟩ : ∃ C, f.st.chk = C := ⟨_, rfl⟩
      obtain ⟨hc1, hc2⟩ := scrc_any f.k f.who f.n f.A f.l.length f.c
      rw [show scC f.k f.who f.n f.l.length = C from hC, hL] at hc1 hc2
      have HC1 := Lib.hid (show ∀ w', Mst W w' [] OW → _ from fun w' h => hc1 w' (HT.out.keep h.bel))
      have HC2 := Lib.hid (show ∀ w', _ from fun w' => hc2 w')
      rw [hL] at HS1
      have n1 : (C != C) = false := by simp
      have HPP := Lib.hid (show ∀ w', Mst W w' [] OW → (w'.cell? ⟨b, o + k * 4, none⟩ = some (.int .i64 f.k) ∧ w'.cell? ⟨b, o + k * 4 + 1, none⟩ = some (.int .i64 f.who) ∧ w'.cell? ⟨b, o + k * 4 + 2, none⟩ = some (.int .i64 f.n) ∧ w'.cell? ⟨b, o + k * 4 + 3, none⟩ = some (.slice f.A L f.c)) ∧ (w'.cell? ⟨b2, o2 + k * 4, none⟩ = some (.int .i64 f.k) ∧ w'.cell? ⟨b2, o2 + k * 4 + 1, none⟩ = some (.int .i64 f.who) ∧ w'.cell? ⟨b2, o2 + k * 4 + 2, none⟩ = some (.int .i64 f.n) ∧ w'.cell? ⟨b2, o2 + k * 4 + 3, none⟩ = some (.slice f.A L f.c)) from fun w' h => by
        obtain ⟨p, q⟩ := hp w' h
        unfold StAt at p q
        simp only [Sb.st, hL] at p q
        exact ⟨p, q⟩)
      obtain ⟨fk, fw, fn, fA, fc, fl⟩ := f
      simp only at HS1 HC1 HC2 HPP
      have K0 := Lib.hid (HPP.out _ Mq.out.drew)
      have i1 : (k : Int) < N := by omega
      have i3 : (0 : Int) ≤ k := by omega
      subst hA hA2
      clear hp hf hL hC hc1 hc2 HEL HSS
      go_upto_region 10 with fail
      refine wp_region_held_drew (S := fun w' => (w'.cell? ⟨b, o + k * 4, none⟩ = some (.int .i64 fk) ∧ w'.cell? ⟨b, o + k * 4 + 1, none⟩ = some (.int .i64 fw) ∧ w'.cell? ⟨b, o + k * 4 + 2, none⟩ = some (.int .i64 fn) ∧ w'.cell? ⟨b, o + k * 4 + 3, none⟩ = some (.slice fA L fc)) ∧ (w'.cell? ⟨b2, o2 + k * 4, none⟩ = some (.int .i64 fk) ∧ w'.cell? ⟨b2, o2 + k * 4 + 1, none⟩ = some (.int .i64 fw) ∧ w'.cell? ⟨b2, o2 + k * 4 + 2, none⟩ = some (.int .i64 fn) ∧ w'.cell? ⟨b2, o2 + k * 4 + 3, none⟩ = some (.slice fA L fc))) (by kernel_rfl) ?_ (fun hHeld => ?_)
      · exact K0.out
      generalize hw7 : World.drew _ = w7 at hHeld ⊢
      have Mq := Lib.hid (Mq.out.drew.toV hw7 rfl)
      clear hw7
      refine wpAnyH_take (i := 0) (v := ?_) rfl (by kernel_rfl) (by kernel_rfl) (by kernel_rfl) (fun _ _ _ h => h) (Or.inl ⟨by rfl, ?_⟩) (by assumption) ?_
      rotate_left
      · intro w hSw; (try dsimp only at hSw); go_split_ands; go_simp; with_reducible rfl
      change wpAnyH _ _ _ _ _ _ _ (Act.put _ (some 41) _) _
      simp only [Act.put, List.setIfInBounds_toArray, List.set_cons_zero, List.set_cons_succ, Array.toArray_toList]
      refine wpAnyH_take (i := 1) (v := ?_) rfl (by kernel_rfl) (by kernel_rfl) (by kernel_rfl) (fun _ _ _ h => h) (Or.inl ⟨by rfl, ?_⟩) (by assumption) ?_
      rotate_left
      · intro w hSw; (try dsimp only at hSw); go_split_ands; go_simp; with_reducible rfl
      change wpAnyH _ _ _ _ _ _ _ (Act.put _ (some 42) _) _
      simp only [Act.put, List.setIfInBounds_toArray, List.set_cons_zero, List.set_cons_succ, Array.toArray_toList]
      refine wpAnyH_take (i := 2) (v := ?_) rfl (by kernel_rfl) (by kernel_rfl) (by kernel_rfl) (fun _ _ _ h => h) (Or.inl ⟨by rfl, ?_⟩) (by assumption) ?_
      rotate_left
      · intro w hSw; (try dsimp only at hSw); go_split_ands; go_simp; with_reducible rfl
      change wpAnyH _ _ _ _ _ _ _ (Act.put _ (some 43) _) _
      simp only [Act.put, List.setIfInBounds_toArray, List.set_cons_zero, List.set_cons_succ, Array.toArray_toList]
      refine wpAnyH_take (i := 3) (v := ?_) rfl (by kernel_rfl) (by kernel_rfl) (by kernel_rfl) (fun _ _ _ h => h) (Or.inl ⟨by rfl, ?_⟩) (by assumption) ?_
      rotate_left
      · intro w hSw; (try dsimp only at hSw); go_split_ands; go_simp; with_reducible rfl
      change wpAnyH _ _ _ _ _ _ _ (Act.put _ (some 44) _) _
      simp only [Act.put, List.setIfInBounds_toArray, List.set_cons_zero, List.set_cons_succ, Array.toArray_toList]
      refine wpAnyH_take (i := 5) (v := ?_) rfl (by kernel_rfl) (by kernel_rfl) (by kernel_rfl) (fun _ _ _ h => h) (Or.inl ⟨by rfl, ?_⟩) (by assumption) ?_
      rotate_left
      · intro w hSw; (try dsimp only at hSw); go_split_ands; go_simp; with_reducible rfl
      change wpAnyH _ _ _ _ _ _ _ (Act.put _ (some 46) _) _
      simp only [Act.put, List.setIfInBounds_toArray, List.set_cons_zero, List.set_cons_succ, Array.toArray_toList]
      refine wpAnyH_take (i := 6) (v := ?_) rfl (by kernel_rfl) (by kernel_rfl) (by kernel_rfl) (fun _ _ _ h => h) (Or.inl ⟨by rfl, ?_⟩) (by assumption) ?_
      rotate_left
      · intro w hSw; (try dsimp only at hSw); go_split_ands; go_simp; with_reducible rfl
      change wpAnyH _ _ _ _ _ _ _ (Act.put _ (some 47) _) _
      simp only [Act.put, List.setIfInBounds_toArray, List.set_cons_zero, List.set_cons_succ, Array.toArray_toList]
      refine wpAnyH_take (i := 7) (v := ?_) rfl (by kernel_rfl) (by kernel_rfl) (by kernel_rfl) (fun _ _ _ h => h) (Or.inl ⟨by rfl, ?_⟩) (by assumption) ?_
      rotate_left
      · intro w hSw; (try dsimp only at hSw); go_split_ands; go_simp; with_reducible rfl
      change wpAnyH _ _ _ _ _ _ _ (Act.put _ (some 48) _) _
      simp only [Act.put, List.setIfInBounds_toArray, List.set_cons_zero, List.set_cons_succ, Array.toArray_toList]
      refine wpAnyH_take (i := 8) (v := ?_) rfl (by kernel_rfl) (by kernel_rfl) (by kernel_rfl) (fun _ _ _ h => h) (Or.inl ⟨by rfl, ?_⟩) (by assumption) ?_
      rotate_left
      · intro w hSw; (try dsimp only at hSw); go_split_ands; go_simp; with_reducible rfl
      change wpAnyH _ _ _ _ _ _ _ (Act.put _ (some 49) _) _
      simp only [Act.put, List.setIfInBounds_toArray, List.set_cons_zero, List.set_cons_succ, Array.toArray_toList]
      refine wpAnyH_ready (rs := [4]) (by kernel_rfl) (by simp) ?_
      refine (AllReadyH.cons rfl (fun K hK => ?_) AllReadyH.nil)
      go_simp
      (with_reducible refine (HC1.out _ Mq.out).mono ?_); rintro r wq ⟨rfl, hb⟩; have Mq := Lib.hid (Mq.out.below hb); clear hb
      go_wp2_with fail
      refine hK.out _ _ (by exact HPP.out _ Mq.out) (fun hHeld => ?_)
      clear hK K
      refine wpAnyH_ready (rs := [9]) (by kernel_rfl) (by simp) ?_
      refine (AllReadyH.cons rfl (fun K hK => ?_) AllReadyH.nil)
      go_simp
      (with_reducible refine (HC2.out _).mono ?_); rintro r wq ⟨rfl, hb⟩; have Mq := Lib.hid (Mq.out.below hb); clear hb
      go_wp2_with fail
      refine hK.out _ _ (by exact HPP.out _ Mq.out) (fun hHeld => ?_)
      clear hK K
      refine wpAnyH_take (i := 10) (v := ?_) rfl (by kernel_rfl) (by kernel_rfl) (by kernel_rfl) (fun _ _ _ h => h) (Or.inl ⟨by rfl, ?_⟩) (by assumption) ?_
      rotate_left
      · intro w hSw; (try dsimp only at hSw); go_split_ands; go_simp; with_reducible rfl
      change wpAnyH _ _ _ _ _ _ _ (Act.put _ (some 51) _) _
      simp only [Act.put, List.setIfInBounds_toArray, List.set_cons_zero, List.set_cons_succ, Array.toArray_toList]
      refine wpAnyH_take (i := 11) (v := ?_) rfl (by kernel_rfl) (by kernel_rfl) (by kernel_rfl) (fun _ _ _ h => h) (Or.inl ⟨by rfl, ?_⟩) (by assumption) ?_
      rotate_left
      · intro w hSw; (try dsimp only at hSw); go_split_ands; go_simp; with_reducible rfl
      change wpAnyH _ _ _ _ _ _ _ (Act.put _ (some 52) _) _
      simp only [Act.put, List.setIfInBounds_toArray, List.set_cons_zero, List.set_cons_succ, Array.toArray_toList]
      refine wpAnyH_take (i := 12) (v := ?_) rfl (by kernel_rfl) (by kernel_rfl) (by kernel_rfl) (fun _ _ _ h => h) (Or.inl ⟨by rfl, ?_⟩) (by assumption) ?_
      rotate_left
      · intro w hSw; (try dsimp only at hSw); go_split_ands; go_simp; with_reducible rfl
      change wpAnyH _ _ _ _ _ _ _ (Act.put _ (some 53) _) _
      simp only [Act.put, List.setIfInBounds_toArray, List.set_cons_zero, List.set_cons_succ, Array.toArray_toList]
      refine wpAnyH_take (i := 13) (v := ?_) rfl (by kernel_rfl) (by kernel_rfl) (by kernel_rfl) (fun _ _ _ h => h) (Or.inl ⟨by rfl, ?_⟩) (by assumption) ?_
      rotate_left
      · intro w hSw; (try dsimp only at hSw); go_split_ands; go_simp; with_reducible rfl
      change wpAnyH _ _ _ _ _ _ _ (Act.put _ (some 54) _) _
      simp only [Act.put, List.setIfInBounds_toArray, List.set_cons_zero, List.set_cons_succ, Array.toArray_toList]
      refine wpAnyH_take (i := 14) (v := ?_) rfl (by kernel_rfl) (by kernel_rfl) (by kernel_rfl) (fun _ _ _ h => h) (Or.inl ⟨by rfl, ?_⟩) (by assumption) ?_
      rotate_left
      · intro w hSw; (try dsimp only at hSw); go_split_ands; go_simp; with_reducible rfl
      change wpAnyH _ _ _ _ _ _ _ (Act.put _ (some 55) _) _
      simp only [Act.put, List.setIfInBounds_toArray, List.set_cons_zero, List.set_cons_succ, Array.toArray_toList]
      refine wpAnyH_take (i := 15) (v := ?_) rfl (by kernel_rfl) (by kernel_rfl) (by kernel_rfl) (fun _ _ _ h => h) (Or.inl ⟨by rfl, ?_⟩) (by assumption) ?_
      rotate_left
      · intro w hSw; (try dsimp only at hSw); go_split_ands; go_simp; with_reducible rfl
      change wpAnyH _ _ _ _ _ _ _ (Act.put _ (some 56) _) _
      simp only [Act.put, List.setIfInBounds_toArray, List.set_cons_zero, List.set_cons_succ, Array.toArray_toList]
      refine wpAnyH_take (i := 16) (v := ?_) rfl (by kernel_rfl) (by kernel_rfl) (by kernel_rfl) (fun _ _ _ h => h) (Or.inl ⟨by rfl, ?_⟩) (by assumption) ?_
      rotate_left
      · intro w hSw; (try dsimp only at hSw); go_split_ands; go_simp; with_reducible rfl
      change wpAnyH _ _ _ _ _ _ _ (Act.put _ (some 57) _) _
      simp only [Act.put, List.setIfInBounds_toArray, List.set_cons_zero, List.set_cons_succ, Array.toArray_toList]
      refine wpAnyH_take (i := 17) (v := ?_) rfl (by kernel_rfl) (by kernel_rfl) (by kernel_rfl) (fun _ _ _ h => h) (Or.inl ⟨by rfl, ?_⟩) (by assumption) ?_
      rotate_left
      · intro w hSw; (try dsimp only at hSw); go_split_ands; go_simp; with_reducible rfl
      change wpAnyH _ _ _ _ _ _ _ (Act.put _ (some 58) _) _
      simp only [Act.put, List.setIfInBounds_toArray, List.set_cons_zero, List.set_cons_succ, Array.toArray_toList]
      refine wpAnyH_take (i := 18) (v := ?_) rfl (by kernel_rfl) (by kernel_rfl) (by kernel_rfl) (fun _ _ _ h => h) (Or.inl ⟨by rfl, ?_⟩) (by assumption) ?_
      rotate_left
      · intro w hSw; (try dsimp only at hSw); go_split_ands; go_simp; with_reducible rfl
      change wpAnyH _ _ _ _ _ _ _ (Act.put _ (some 59) _) _
      simp only [Act.put, List.setIfInBounds_toArray, List.set_cons_zero, List.set_cons_succ, Array.toArray_toList]
      refine wpAnyH_take (i := 19) (v := ?_) rfl (by kernel_rfl) (by kernel_rfl) (by kernel_rfl) (fun _ _ _ h => h) (Or.inl ⟨by rfl, ?_⟩) (by assumption) ?_
      rotate_left
      · intro w hSw; (try dsimp only at hSw); go_split_ands; go_simp; with_reducible rfl
      change wpAnyH _ _ _ _ _ _ _ (Act.put _ (some 60) _) _
      simp only [Act.put, List.setIfInBounds_toArray, List.set_cons_zero, List.set_cons_succ, Array.toArray_toList]
      refine wpAnyH_ready (rs := [20]) (by kernel_rfl) (by simp) ?_
      refine (AllReadyH.cons rfl (fun K hK => ?_) AllReadyH.nil)
      go_simp
      (with_reducible refine (HS1.out _ Mq.out).mono ?_); rintro r wq ⟨rfl, hb⟩; have Mq := Lib.hid (Mq.out.below hb); clear hb
      go_wp2_with fail
      refine hK.out _ _ (by exact HPP.out _ Mq.out) (fun hHeld => ?_)
      clear hK K
      refine wpAnyH_take (i := 21) (v := ?_) rfl (by kernel_rfl) (by kernel_rfl) (by kernel_rfl) (fun _ _ _ h => h) (Or.inl ⟨by rfl, ?_⟩) (by assumption) ?_
      rotate_left
      · intro w hSw; (try dsimp only at hSw); go_split_ands; go_simp; with_reducible rfl
      change wpAnyH _ _ _ _ _ _ _ (Act.put _ (some 62) _) _
      simp only [Act.put, List.setIfInBounds_toArray, List.set_cons_zero, List.set_cons_succ, Array.toArray_toList]
      refine wpAnyH_take (i := 22) (v := ?_) rfl (by kernel_rfl) (by kernel_rfl) (by kernel_rfl) (fun _ _ _ h => h) (Or.inl ⟨by rfl, ?_⟩) (by assumption) ?_
      rotate_left
      · intro w hSw; (try dsimp only at hSw); go_split_ands; go_simp; with_reducible rfl
      change wpAnyH _ _ _ _ _ _ _ (Act.put _ (some 63) _) _
      simp only [Act.put, List.setIfInBounds_toArray, List.set_cons_zero, List.set_cons_succ, Array.toArray_toList]
      refine wpAnyH_done (by kernel_rfl) ?_ _
      clear hHeld K0
      go_wp2_with fail
      go_roundg (N - (k + 1))
      case measure => exact meas hk hlt
      case rel => exact ⟨k + 1, meas2 hlt, by go_num, Mq.out⟩
    · obtain rfl : k = N := by omega
      clear hlt hk HEL HSS
      by_cases hE0 : E = 0
      · have HPE := Lib.hid (HPA.out hE0)
        subst hE0
        clear HPA
        go_wp2_with fail
        with_reducible refine (HPE.out _ Mq.out).mono ?_
        rintro r w6 ⟨A6, c6, gs6, rfl, hgl, hgk, hm⟩
        have HGL := Lib.hid hgl
        have HGK := Lib.hid hgk
        have Mq := Lib.hid hm
        clear hgl hgk hm
        go_wp2_with fail
        with_reducible refine (HKN.out _ _ Mq.out).mono ?_
        rintro r w7 ⟨rfl, hb⟩
        have Mq := Lib.hid (Mq.out.below hb)
        clear hb
        go_wp2_with fail
        with_reducible refine (HOG.out _ _ _ gs6 _ HGL.out Mq.out).mono ?_
        rintro r w8 ⟨A8, c8, rfl, hm⟩
        have Mq := Lib.hid hm
        clear hm
        go_wp2_with fail
        with_reducible refine (HSM.out _ _ _ _ _ gs6 HGL.out HGK.out Mq.out).mono ?_
        rintro r w9 ⟨rfl, hb⟩
        have Mq := Lib.hid (Mq.out.below hb)
        clear hb
        go_wp2_with fail
        go_ret
        exact ⟨rfl, Mq.out.bel⟩
      · have e2 : (E == 0) = false := by simpa using hE0
        have e3 : (E != 0) = true := by simpa using hE0
        clear hE0
        go_wp2_with fail
        with_reducible refine (HKN.out _ _ Mq.out).mono ?_
        rintro r w7 ⟨rfl, hb⟩
        have Mq := Lib.hid (Mq.out.below hb)
        clear hb
        go_wp2_with fail
        go_ret
        exact ⟨rfl, Mq.out.bel⟩
theorem contract_scriptBytes (W : World) (v0 : Value) (a0 : ∃ A c, ∃ fs : List (Int × Int × Int × Rw), v0 = .slice A fs.length c ∧ fs.length ≤ c ∧ c ≤ maxLen ∧ Rd W W.heap.size 4 A fs.length (fs.flatMap f4) ∧ ∀ f ∈ fs, in64 f.1 ∧ in64 f.2.1 ∧ in64 f.2.2.1 ∧ f.2.2.2.ok .u8 W)
    (hP : ∀ w, Below W.heap.size W w → Lib.TabIs Tryd.prog w "internal/strconv.uint64pow10" .u64 Lib.pow10Tab) (hT : ∀ w, Below W.heap.size W w → Lib.TabIs Tryd.prog w "strings.asciiSpace" .u8 Lib.asciiSpaceTab) :
    Calls Tryd.prog 7 #[v0] W fun e W' => e = .returned (.bool true) ∧ Below W.heap.size W W' := by
  obtain ⟨A, c, fs, rfl, h1, h2, h3, h4⟩ := a0
  obtain ⟨gs, e1, e2, e3⟩ := stps_sb fs h4
  rw [← e1, ← e2] at h3
  rw [← e2] at h1 ⊢
  exact scriptBytes_main W gs A c h3 e3 (by unfold maxLen at h2; omega) hT hP
end Go.Proofs.YtnopmdhjamkoaaaDoor
