/- Contract of script.Parse, of a script's bytes. -/
import Derived.Test.YtnopmdhjamkoaaaDoorSc25
import Derived.Test.YtnopmdhjamkoaaaDoorSc26
import Derived.Test.YtnopmdhjamkoaaaDoorRd4
namespace Go.Proofs.YtnopmdhjamkoaaaDoor
set_option linter.unusedVariables false
set_option linter.unusedSimpArgs false
open Go.RowKit
def Sb.key (f : Sb) : Int × Int × Int × List UInt8 := (f.k, f.who, f.n, f.l)
theorem num_got {s n : Int} {r : List UInt8} (h : chkB s n 0 = 0) (hs : s ≠ 4) (hn : n ≤ 9223372036854775807) : nV (numB (widB s) n ++ r, 0) s = n ∧ nS (numB (widB s) n ++ r, 0) s = (r, 0) := by
  have h1 := get_out s n [] r h hn
  have e : outB s n [] = numB (widB s) n := by unfold outB; exact if_neg hs
  rw [e] at h1
  unfold nV nS
  rw [if_neg hs, h1.1, h1.2]
  exact ⟨rfl, rfl⟩
theorem byt_got {l r : List UInt8} (h : l.length ≤ 400) : bB (numB 2 (l.length : Int) ++ l ++ r, 0) 400 = l ∧ bS (numB 2 (l.length : Int) ++ l ++ r, 0) 400 = (r, 0) := by
  have h1 := get_out 4 0 l r (by
    unfold chkB
    rw [if_neg (by omega), if_pos rfl, if_neg (by omega), if_neg (by omega)]) (by omega)
  have e : outB 4 0 l = numB 2 (l.length : Int) ++ l := by unfold outB; exact if_pos rfl
  rw [e] at h1
  unfold bB bS
  rw [h1.1, h1.2, if_neg (by simp; omega), if_neg (by simp; omega)]
  exact ⟨rfl, rfl⟩
theorem st_chk (f : Sb) : f.st.chk = scC f.k f.who f.n f.l.length := rfl
theorem key_chk {f g : Sb} (h : f.key = g.key) : f.st.chk = g.st.chk := by
  simp only [Sb.key, Prod.mk.injEq] at h
  obtain ⟨h1, h2, h3, h4⟩ := h
  rw [st_chk, st_chk, h1, h2, h3, h4]
set_option maxRecDepth 100000 in
set_option maxHeartbeats 8000000 in
theorem sparse_any (W w : World) (bl : Bl) (ow : List Ro) (hM : Mst W w bl ow) (hT : TabU W) (fs : List Sb) (N : Nat) (hN : fs.length = N) (hn : N ≤ 32) (hok : ∀ f ∈ fs, f.st.chk = 0) (A : Option Addr) (c M : Nat) (hlen : (encS N fs).length = M) (hM4 : M ≤ 1024) (hr : RB w w.heap.size A (encS N fs)) :
    Calls Tryd.prog 49 #[.slice A M c] w fun r w' => ∃ (A' : Option Addr) (c' : Nat) (gs : List Sb), r = .returned (.tuple #[.slice A' N c', .int .i64 0]) ∧ gs.length = N ∧ gs.map Sb.key = fs.map Sb.key ∧ Mst W w' bl (⟨62, 4, .slice A' N c', N, sts (gs.map Sb.st)⟩ :: (gs.reverse.map brow ++ ow)) := by
  have hnew := rdnew_any W w bl ow hM A c (encS N fs) hr (by omega)
  rw [hlen] at hnew
  have HNEW := Lib.hid hnew
  have HNR := Lib.hid (show newR (encS N fs) = (numB 1 (N : Int) ++ fs.flatMap enc1, 0) from by unfold newR; rw [if_neg (by omega)]; rfl)
  have HNG := Lib.hid (num_got (s := 0) (n := (N : Int)) (r := fs.flatMap enc1) (chkn0 (n := (N : Int)) (by omega) (by omega)) (by decide) (by omega))
  have HT := Lib.hid hT
  have HOK := Lib.hid hok
  have HN := Lib.hid hN
  have i1 : (N : Int) ≤ 32 := by omega
  have i2 : (0 : Int) ≤ N := by omega
  have i3 : ¬ (32 : Int) < N := by omega
  clear hnew hT hok hN hM hr hlen hM4
  go_enter Tryd.func49, Tryd.ntmps49
  go_wp2_with fail
  with_reducible refine (HNEW.out).mono ?_
  rintro r w1 ⟨g, Ac, cc, rfl, -, hR⟩
  rw [HNR.out] at hR
  obtain ⟨ow', hOW⟩ : ∃ ow', (⟨5, 1, .slice Ac (encS N fs).length cc, (encS N fs).length, by8 (encS N fs)⟩ :: ow : List Ro) = ow' := ⟨_, rfl⟩
  rw [hOW] at hR
  have HOW := Lib.hid (show List.Sublist ow ow' from by rw [← hOW]; exact List.sublist_cons_self _ _)
  have HR := Lib.hid (hR.nilr 62 4)
  clear hR HNEW HNR hOW
  go_wp2_with fail
  with_reducible refine (rdnum_any W _ _ _ _ _ _ _ HR.out 0).mono ?_
  rintro r w2 ⟨rfl, hR⟩
  obtain ⟨e1, e2⟩ := HNG.out
  have e1' : nV (numB 1 (N : Int) ++ fs.flatMap enc1, 0) 0 = N := e1
  have e2' : nS (numB 1 (N : Int) ++ fs.flatMap enc1, 0) 0 = (fs.flatMap enc1, 0) := e2
  rw [e2'] at hR
  rw [e1']
  have HR := Lib.hid hR
  clear e1 e2 e1' e2' hR HNG
  go_wp2_with fail
  go_loopg [6, 15] N (fun gg s6 s15 wr => ∃ (k : Nat) (v : Value) (gs : List Sb), k + gg = N ∧ s15 = .int .i64 k ∧ s6 = v ∧ Hid (gs.length = k) ∧ Hid (gs.map Sb.key = (fs.take k).map Sb.key) ∧ RrX W [] (⟨62, 4, v, k, sts (gs.map Sb.st)⟩ :: gs.reverse.map brow) bl ow' g ((fs.drop k).flatMap enc1, 0) wr)
  case atStart => exact ⟨0, _, [], by omega, rfl, rfl, Lib.hid rfl, Lib.hid (by simp), HR.out⟩
  case round =>
    obtain ⟨k, v, gs, hk, rfl, rfl, hgl, hgk, hR⟩ := hrel
    have HRk := Lib.hid hR
    clear HR hR
    by_cases hlt : k < N
    · obtain ⟨f, hf⟩ : ∃ e, fs[k]? = some e := ⟨_, List.getElem?_eq_getElem (by rw [HN.out]; exact hlt)⟩
      have hkf := HOK.out f (List.mem_of_getElem? hf)
      obtain ⟨k0, k1, q0, q1, n0, n1, hl4⟩ := scC_ok31 hkf
      simp only [Sb.st] at k0 k1 q0 q1 n0 n1 hl4
      obtain ⟨R, hRR⟩ : ∃ R, (fs.drop (k + 1)).flatMap enc1 = R := ⟨_, rfl⟩
      have hd : (fs.drop k).flatMap enc1 = numB 1 f.k ++ (numB 2 f.who ++ (numB 4 f.n ++ (numB 2 (f.l.length : Int) ++ f.l ++ R))) := by
        have hlt' := (List.getElem?_eq_some_iff.1 hf).1
        obtain ⟨_, e⟩ := List.getElem?_eq_some_iff.1 hf
        rw [List.drop_eq_getElem_cons hlt', e, List.flatMap_cons, hRR]
        simp [enc1]
      obtain ⟨a1, a2⟩ := num_got (s := 0) (n := f.k) (r := numB 2 f.who ++ (numB 4 f.n ++ (numB 2 (f.l.length : Int) ++ f.l ++ R))) (chkn0 (n := f.k) k0 (by omega)) (by decide) (by omega)
      obtain ⟨b1, b2⟩ := num_got (s := 1) (n := f.who) (r := numB 4 f.n ++ (numB 2 (f.l.length : Int) ++ f.l ++ R)) (chkn1 q0 q1) (by decide) (by omega)
      obtain ⟨c1, c2⟩ := num_got (s := 2) (n := f.n) (r := numB 2 (f.l.length : Int) ++ f.l ++ R) (chkn2 (n := f.n) n0 (by omega)) (by decide) (by omega)
      obtain ⟨d1, d2⟩ := byt_got (l := f.l) (r := R) hl4
      have HC1 := Lib.hid (show ∀ w' xb xr, RrX W xb xr bl ow' g ((fs.drop k).flatMap enc1, 0) w' → Calls Tryd.prog 75 #[.pointer (some ⟨g, 0, none⟩), .int .i64 0] w' (RrPost W xb xr bl ow' g (numB 2 f.who ++ (numB 4 f.n ++ (numB 2 (f.l.length : Int) ++ f.l ++ R)), 0) (.returned (.int .i64 f.k))) from fun w' xb xr h => by
        have q := rdnum_any W w' xb xr bl ow' g _ h 0
        rw [hd] at q
        have a1' : nV (numB 1 f.k ++ (numB 2 f.who ++ (numB 4 f.n ++ (numB 2 (f.l.length : Int) ++ f.l ++ R))), 0) 0 = f.k := a1
        have a2' : nS (numB 1 f.k ++ (numB 2 f.who ++ (numB 4 f.n ++ (numB 2 (f.l.length : Int) ++ f.l ++ R))), 0) 0 = _ := a2
        rw [a1', a2'] at q
        exact q)
      have HC2 := Lib.hid (show ∀ w' xb xr, RrX W xb xr bl ow' g (numB 2 f.who ++ (numB 4 f.n ++ (numB 2 (f.l.length : Int) ++ f.l ++ R)), 0) w' → Calls Tryd.prog 75 #[.pointer (some ⟨g, 0, none⟩), .int .i64 1] w' (RrPost W xb xr bl ow' g (numB 4 f.n ++ (numB 2 (f.l.length : Int) ++ f.l ++ R), 0) (.returned (.int .i64 f.who))) from fun w' xb xr h => by
        have q := rdnum_any W w' xb xr bl ow' g _ h 1
        have a1' : nV (numB 2 f.who ++ (numB 4 f.n ++ (numB 2 (f.l.length : Int) ++ f.l ++ R)), 0) 1 = f.who := b1
        have a2' : nS (numB 2 f.who ++ (numB 4 f.n ++ (numB 2 (f.l.length : Int) ++ f.l ++ R)), 0) 1 = _ := b2
        rw [a1', a2'] at q
        exact q)
      have HC3 := Lib.hid (show ∀ w' xb xr, RrX W xb xr bl ow' g (numB 4 f.n ++ (numB 2 (f.l.length : Int) ++ f.l ++ R), 0) w' → Calls Tryd.prog 75 #[.pointer (some ⟨g, 0, none⟩), .int .i64 2] w' (RrPost W xb xr bl ow' g (numB 2 (f.l.length : Int) ++ f.l ++ R, 0) (.returned (.int .i64 f.n))) from fun w' xb xr h => by
        have q := rdnum_any W w' xb xr bl ow' g _ h 2
        have a1' : nV (numB 4 f.n ++ (numB 2 (f.l.length : Int) ++ f.l ++ R), 0) 2 = f.n := c1
        have a2' : nS (numB 4 f.n ++ (numB 2 (f.l.length : Int) ++ f.l ++ R), 0) 2 = _ := c2
        rw [a1', a2'] at q
        exact q)
      have HC4 := Lib.hid (show ∀ w' xb xr, RrX W xb xr bl ow' g (numB 2 (f.l.length : Int) ++ f.l ++ R, 0) w' → Calls Tryd.prog 76 #[.pointer (some ⟨g, 0, none⟩), .int .i64 400] w' (fun e w' => ∃ A c, e = .returned (.slice A f.l.length c) ∧ RrX W xb (⟨5, 1, .slice A f.l.length c, f.l.length, by8 f.l⟩ :: xr) bl ow' g (R, 0) w') from fun w' xb xr h => by
        have q := rdbytes_any W w' xb xr bl ow' g _ h 400
        unfold BytesPost at q
        rw [d1, d2] at q
        exact q)
      obtain ⟨L, hL⟩ : ∃ L, f.l.length = L := ⟨_, rfl⟩
      rw [hL] at HC1 HC2 HC3 HC4
      have HRS := Lib.hid hRR
      have HF := Lib.hid hf
      have HLL := Lib.hid hL
      have j1 : (k : Int) < N := by omega
      have j2 : (0 : Int) ≤ k := by omega
      clear a1 a2 b1 b2 c1 c2 d1 d2 hd hkf k0 k1 q0 q1 n0 n1 hl4 hRR hf
      go_wp2_with fail
      with_reducible refine (HC1.out _ _ _ HRk.out).mono ?_
      rintro r w3 ⟨rfl, hR⟩
      have R1 := Lib.hid hR
      clear hR
      go_wp2_with fail
      with_reducible refine (HC2.out _ _ _ R1.out).mono ?_
      rintro r w4 ⟨rfl, hR⟩
      have R2 := Lib.hid hR
      clear hR
      go_wp2_with fail
      with_reducible refine (HC3.out _ _ _ R2.out).mono ?_
      rintro r w5 ⟨rfl, hR⟩
      have R3 := Lib.hid hR
      clear hR
      go_wp2_with fail
      with_reducible refine (HC4.out _ _ _ R3.out).mono ?_
      rintro r w6 ⟨A6, c6, rfl, hR⟩
      obtain ⟨Aq, cq, hm, hs, hc1, hc2⟩ := hR
      have M6 := Lib.hid (show Mst W w6 ((g, 146, #[.slice Aq R.length cq, .int .i64 0]) :: bl) ([⟨5, 1, .slice A6 L c6, L, by8 f.l⟩] ++ ⟨62, 4, _, k, sts (gs.map Sb.st)⟩ :: (gs.reverse.map brow ++ ow')) from hm)
      have HQ := Lib.hid (And.intro hs (And.intro hc1 hc2))
      clear hm hs hc1 hc2 R1 R2 R3 HRk HC1 HC2 HC3 HC4
      go_wp2_with (at_builtin; refine wpList_appE rfl _ _ 54 rfl [_] (M6.out.alloc _) el_step rfl _ _ 1 1 _ rfl (Rd.new1 _ #[.int .i64 f.k, .int .i64 f.who, .int .i64 f.n, .slice A6 L c6] _ rfl) (by simp [Value.oneCell']) (by unfold maxLen; omega) (by omega) ?_; intro A7 c7 w7 N7 X7 hn7 hx7 mq; have M7 := Lib.hid mq; have HN7 := Lib.hid hn7; have HX7 := Lib.hid hx7; clear mq hn7 hx7)
      go_roundg (N - (k + 1))
      case measure => exact meas hk hlt
      case rel =>
        refine ⟨k + 1, .slice A7 N7 c7, gs ++ [⟨f.k, f.who, f.n, A6, c6, f.l⟩], meas2 hlt, by go_num, rfl, Lib.hid (by rw [List.length_append, hgl.out]; rfl), Lib.hid (by rw [List.map_append, hgk.out, take_snoc31 HF.out, List.map_append]; rfl), ?_⟩
        obtain ⟨hs, hc1, hc2⟩ := HQ.out
        rw [HRS.out]
        refine ⟨Aq, cq, ?_, hs, hc1, hc2⟩
        have m := M7.out
        rw [HX7.out, HN7.out] at m
        have hb : brow ⟨f.k, f.who, f.n, A6, c6, f.l⟩ = ⟨5, 1, .slice A6 L c6, L, by8 f.l⟩ := by
          unfold brow
          rw [HLL.out]
        rw [List.reverse_append, List.map_append, List.map_append]
        simp only [List.reverse_cons, List.reverse_nil, List.nil_append, List.map_cons, List.map_nil, List.cons_append]
        rw [hb]
        have hst : sts (gs.map Sb.st ++ [Sb.st ⟨f.k, f.who, f.n, A6, c6, f.l⟩]) = sts (gs.map Sb.st) ++ [.int .i64 f.k, .int .i64 f.who, .int .i64 f.n, .slice A6 L c6] := by
          simp [sts, Sb.st, HLL.out]
        rw [hst, HN7.out]
        exact m.perm (List.Perm.refl _) (List.Perm.swap _ _ _)
    · obtain rfl : k = N := by omega
      have htk : fs.take k = fs := List.take_of_length_le (by rw [HN.out]; exact Nat.le_refl _)
      have hdk : fs.drop k = [] := List.drop_of_length_le (by rw [HN.out]; exact Nat.le_refl _)
      rw [htk] at hgk
      have hRk := HRk.out
      rw [hdk] at hRk
      have hend := end_any W wr [] _ bl ow' g _ hRk
      have HE := Lib.hid (show Calls Tryd.prog 77 #[.pointer (some ⟨g, 0, none⟩)] wr fun e w' => e = .returned (.int .i64 0) ∧ wr = w' from hend)
      obtain ⟨Aq, cq, hm, -⟩ := hRk
      obtain ⟨A7, c7, rfl, -⟩ := own_form (hm.row [])
      have hgc : ∀ x ∈ gs, x.st.chk = 0 := by
        intro x hx
        obtain ⟨i, hi⟩ := List.getElem?_of_mem hx
        have h1 : (gs.map Sb.key)[i]? = some x.key := by simp [hi]
        rw [hgk.out] at h1
        simp only [List.getElem?_map, Option.map_eq_some_iff] at h1
        obtain ⟨y, hy, he⟩ := h1
        rw [← key_chk he]
        exact HOK.out y (List.mem_of_getElem? hy)
      have HCF := Lib.hid (scont_any wr (HT.out.keep hm.bel) A7 c7 k (gs.map Sb.st) (by simpa using hgl.out) (by omega) (hm.src (hm.rowSrc (List.mem_cons_self ..))) (by
        intro e he
        obtain ⟨x, hx, rfl⟩ := List.mem_map.1 he
        exact hgc x hx))
      have Mq := Lib.hid (show Mst W wr bl (⟨62, 4, .slice A7 k c7, k, sts (gs.map Sb.st)⟩ :: (gs.reverse.map brow ++ ow)) from hm.sub (List.sublist_cons_self _ _) (List.Sublist.cons_cons _ (List.Sublist.append (List.Sublist.refl _) HOW.out)))
      clear htk hdk hend hm hgc HRk hlt hk
      go_wp2_with fail
      with_reducible refine (HE.out).mono ?_
      rintro r w3 ⟨rfl, rfl⟩
      go_wp2_with fail
      with_reducible refine (HCF.out).mono ?_
      rintro r w4 ⟨rfl, hb⟩
      have Mq := Lib.hid (Mq.out.below hb)
      clear hb
      go_wp2_with fail
      go_ret2
      exact ⟨A7, c7, gs, rfl, hgl.out, hgk.out, Mq.out⟩
end Go.Proofs.YtnopmdhjamkoaaaDoor
