/- Contracts of package digest: a running digest: what it is, Len, Add. -/
import Derived.Test.YthnaobolmgcclaaSha4
import Derived.Test.YthnaobolmgcclaaCat
import Derived.Test.YthnaobolmgcclaaSrc
import Derived.Deep.RegionHeld3
namespace Go.Proofs.Ythnaobolmgcclaa
set_option linter.unusedVariables false
open Go.RowKit

theorem all_gen (w : World) (g : Nat) (T : TypeId) (rest : List Value) (s : H8) (hb : Bk w g T (hcs s.l rest)) (A : Option Addr) (c : Nat) (l : List UInt8) (hr : RB w w.heap.size A l) (hbg : ∀ b o, A = some ⟨b, o, none⟩ → b ≠ g) (hc : l.length ≤ c) (hcm : c ≤ 9223372036854775807) :
    Calls Try.prog 83 #[.pointer (some ⟨g, 0, none⟩), .slice A l.length c] w fun e w' => ∃ A' c', e = .returned (.slice A' (restA l).length c') ∧ On w w' g ∧ Bk w' g T (hcs (shaA s l).l rest) ∧
      (restA l ≠ [] → ∃ b o, A = some ⟨b, o, none⟩ ∧ A' = some ⟨b, o + 64 * (l.length / 64), none⟩) ∧ (restA l).length ≤ c' ∧ c' ≤ c := by
  by_cases h0 : l = []
  · subst h0
    have h1 := Lib.hid hb
    clear hb hr hbg
    go_enter Try.func83, Try.ntmps83
    go_wp2_with fail
    go_loopg [1] 0 (fun gk s1 wr => s1 = .slice A 0 c ∧ wr = w)
    case atStart => exact ⟨rfl, rfl⟩
    case round =>
      obtain ⟨rfl, rfl⟩ := hrel
      go_wp2
      go_ret
      exact ⟨A, c, rfl, On.refl _ _, h1.out, fun h => absurd rfl h, hc, Nat.le_refl _⟩
  · obtain ⟨b, o, e, hbw, _⟩ := hr.2 (List.length_pos_iff.2 h0)
    subst e
    refine (all_any w g T rest s hb b o c l hr (hbg b o rfl) hc hcm).mono ?_
    rintro e w' ⟨A', c', h1, h2, h3, h4, h5, h6⟩
    exact ⟨A', c', h1, h2, h3, fun h => ⟨b, o, rfl, h4 h⟩, h5, h6⟩

/-- The cells of a running digest: on, what is left, how many. -/
def told : Option (List UInt8) → List UInt8 := fun st => st.getD []
def hw : Option (List UInt8) → List Wd
  | none => List.replicate 8 0
  | some l => (shaA h0 l).l
theorem hw_len (st : Option (List UInt8)) : (hw st).length = 8 := by cases st <;> rfl
def rtl (st : Option (List UInt8)) (A : Option Addr) (c : Nat) : List Value := [.bool st.isSome, .slice A (restA (told st)).length c, .int .i64 ((told st).length : Nat)]
def rcells (st : Option (List UInt8)) (A : Option Addr) (c : Nat) : Array Value := hcs (hw st) (rtl st A c)
/-- A running digest in block g, told st's bytes; its rest lies in the rows hr. -/
def RunAt (W : World) (g : Nat) (st : Option (List UInt8)) (x : Nat × TypeId × Array Value) (hr : List Ro) : Prop :=
  ∃ A c, x = (g, 67, rcells st A c) ∧ Src W [] hr 1 A (restA (told st)).length (by8 (restA (told st))) ∧ (restA (told st)).length ≤ c ∧ c ≤ 9223372036854775807
def RunX (W w : World) (xb : Bl) (xr : List Ro) (g : Nat) (st : Option (List UInt8)) : Prop := ∃ x hr, RunAt W g st x hr ∧ Mst W w (x :: xb) (hr ++ xr)
/-- Parts, by what the memory of a call is known to hold. -/
def SPts (W : World) (xb : Bl) (xr : List Ro) (A : Option Addr) (ps : List Pt) : Prop := Src W xb xr 1 A ps.length (ps.map Pt.v) ∧ ∀ p ∈ ps, Src W xb xr 1 p.A p.l.length (by8 p.l)
theorem Mst.pts {W w : World} {xb : Bl} {xr : List Ro} {A : Option Addr} {ps : List Pt} (h : Mst W w xb xr) (hp : SPts W xb xr A ps) : Pts w A ps := ⟨h.src hp.1, fun p hm => h.src (hp.2 p hm)⟩
theorem SPts.sub {W : World} {xb xb' : Bl} {xr xr' : List Ro} {A : Option Addr} {ps : List Pt} (h : SPts W xb xr A ps) (h1 : ∀ x ∈ xb, x ∈ xb') (h2 : ∀ y ∈ xr, y ∈ xr') : SPts W xb' xr' A ps := ⟨h.1.sub h1 h2, fun p hm => (h.2 p hm).sub h1 h2⟩
theorem SPts.nil_ (W : World) (xb : Bl) (xr : List Ro) (A : Option Addr) : SPts W xb xr A [] := ⟨Src.nil_ _ _ _ _ _, by simp⟩

/-- Cells, one behind the other. -/
def setAll : Array Value → Nat → List Value → Array Value
  | cs, _, [] => cs
  | cs, o, v :: vs => setAll (cs.setIfInBounds o v) (o + 1) vs
theorem Mst.putCells {W wr : World} {bl : Bl} {ow : List Ro} (pre : Bl) {post : Bl} {g : Nat} {t : TypeId} : ∀ (vs : List Value) (o : Nat) (wr : World) (cs : Array Value), Mst W wr (pre ++ (g, t, cs) :: post) ow →
    Mst W (wr.setCells g o vs) (pre ++ (g, t, setAll cs o vs) :: post) ow
  | [], _, _, _, h => h
  | v :: vs, o, wr, cs, h => Mst.putCells (bl := bl) (wr := wr) pre vs (o + 1) _ _ (h.put pre o v)
theorem set_begun (rest : List Value) (s : H8) : setAll (hcs (List.replicate 8 0) rest) 0 (s.l.map W) = hcs s.l rest := by
  simp only [H8.l, List.map_cons, List.map_nil, setAll]
  rw [hcs_set _ _ (by simp), hcs_set _ _ (by simp), hcs_set _ _ (by simp), hcs_set _ _ (by simp), hcs_set _ _ (by simp), hcs_set _ _ (by simp), hcs_set _ _ (by simp), hcs_set _ _ (by simp)]
  rfl
theorem Bk.there {w : World} {g : Nat} {t : TypeId} {cs : Array Value} (h : Bk w g t cs) {o n : Nat} (hn : o + n ≤ cs.size) : w.there g o n := fun j hj => ⟨by
  rw [h.cell]
  simp
  omega, h.fr _⟩
theorem hcs_size (l : List Wd) (rest : List Value) : (hcs l rest).size = l.length + rest.length := by simp [hcs]
theorem hcs_rest (l : List Wd) (rest : List Value) (j : Nat) : (hcs l rest)[l.length + j]? = rest[j]? := by
  simp only [hcs, List.getElem?_toArray]
  rw [List.getElem?_append_right (by simp)]
  simp
theorem hcs_setR (l : List Wd) (rest : List Value) (j : Nat) (v : Value) : (hcs l rest).setIfInBounds (l.length + j) v = hcs l (rest.set j v) := by
  simp only [hcs, List.setIfInBounds_toArray]
  rw [List.set_append_right _ _ (by simp)]
  simp

/-- Two parts, one behind the other, in a row of the call's own. -/
theorem concat2_step (W0 w : World) (xb : Bl) (xr : List Ro) (h : Mst W0 w xb xr) (p q : Pt) (s1 : Src W0 xb xr 1 p.A p.l.length (by8 p.l)) (s2 : Src W0 xb xr 1 q.A q.l.length (by8 q.l)) (hl : p.l.length + q.l.length ≤ 1000000) (X : List UInt8) (hX : p.l ++ q.l = X) :
    Calls Try.prog 84 #[.slice (some ⟨w.heap.size, 0, none⟩) 2 2] (w.alloc (.cells #[p.v, q.v] 26)) fun e w' => ∃ A c, e = .returned (.slice A X.length c) ∧
      Mst W0 w' xb (⟨5, 1, .slice A X.length c, X.length, by8 X⟩ :: xr) ∧ X.length ≤ c ∧ c ≤ 9223372036854775807 := by
  subst hX
  have m1 := h.newrow 26 1 2 2 #[p.v, q.v] (Nat.le_refl _) (by decide) rfl
  have e2 : catP [p, q] = p.l ++ q.l := by simp [catP]
  have hp : Pts (w.alloc (.cells #[p.v, q.v] 26)) (some ⟨w.heap.size, 0, none⟩) [p, q] := by
    refine ⟨m1.src (m1.rowSrc (List.mem_cons_self ..)), fun x hx => ?_⟩
    have hx2 : x = p ∨ x = q := by simpa using hx
    rcases hx2 with rfl | rfl
    · exact m1.src (s1.cr _)
    · exact m1.src (s2.cr _)
  refine (concat_any _ _ 2 [p, q] hp (by simp) (by rw [e2]; simpa using hl)).mono ?_
  rintro e w' ⟨v, rfl, hf⟩
  rw [e2] at hf
  have m2 := m1.addr hf
  have m3 := m2.sub (List.Sublist.refl _) (List.Sublist.cons_cons _ (List.sublist_cons_self _ _))
  obtain ⟨A, c, rfl, _, h1, h2, _⟩ := own_form hf.own
  refine ⟨A, c, rfl, m3, h2, ?_⟩
  rcases hf.own.2 with ⟨e1, _⟩ | ⟨g, cap, cur, e1, _, _, _, hc, _⟩
  · simp only [Value.slice.injEq] at e1
    omega
  · simp only [Value.slice.injEq] at e1
    unfold maxLen at hc
    omega
/-- All whole blocks of a row of the call's own. -/
theorem all_step (W0 w : World) (xb : Bl) (xr : List Ro) (g : Nat) (rest : List Value) (s : H8) (A : Option Addr) (c : Nat) (l : List UInt8)
    (h : Mst W0 w ((g, 67, hcs s.l rest) :: xb) (⟨5, 1, .slice A l.length c, l.length, by8 l⟩ :: xr)) (hc : l.length ≤ c) (hcm : c ≤ 9223372036854775807) :
    Calls Try.prog 83 #[.pointer (some ⟨g, 0, none⟩), .slice A l.length c] w fun e w' => ∃ A' c', e = .returned (.slice A' (restA l).length c') ∧
      Mst W0 w' ((g, 67, hcs (shaA s l).l rest) :: xb) (⟨5, 1, .slice A l.length c, l.length, by8 l⟩ :: xr) ∧
      Src W0 [] [⟨5, 1, .slice A l.length c, l.length, by8 l⟩] 1 A' (restA l).length (by8 (restA l)) ∧ (restA l).length ≤ c' ∧ c' ≤ 9223372036854775807 := by
  have hrow := h.row []
  have hkb := h.blk []
  have hne := h.ne _ (List.mem_cons_self ..) _ (List.mem_cons_self ..)
  have hrs : Src W0 [] [⟨5, 1, .slice A l.length c, l.length, by8 l⟩] 1 A l.length (by8 l) := (h.sub (List.nil_sublist _) (List.Sublist.cons_cons _ (List.nil_sublist _))).rowSrc (List.mem_singleton_self _)
  refine (all_gen w g _ rest s hkb A c l (own_rd hrow) (fun b o e => ?_) hc hcm).mono ?_
  · subst e
    intro e2
    exact hne (by rw [e2]; rfl)
  · rintro e w' ⟨A', c', rfl, h2, h3, h4, h5, h6⟩
    refine ⟨A', c', rfl, h.on [] h2 h3, ?_, h5, by omega⟩
    by_cases h0 : restA l = []
    · rw [h0]
      exact Src.nil_ _ _ _ _ _
    · obtain ⟨b, o, rfl, rfl⟩ := h4 h0
      have := hrs.part rfl (64 * (l.length / 64)) (restA l).length (by rw [restA_len]; omega)
      rw [Nat.mul_one, Nat.mul_one] at this
      have e1 : ((by8 l).drop (64 * (l.length / 64))).take (restA l).length = by8 (restA l) := by
        have e2 : (by8 l).drop (64 * (l.length / 64)) = by8 (restA l) := by simp [by8, restA, List.map_drop]
        rw [e2, List.take_of_length_le (by rw [by8_length]; exact Nat.le_refl _)]
      rw [e1] at this
      exact this

structure AdR (W wr : World) (xb : Bl) (xr : List Ro) (g : Nat) (l : List UInt8) : Prop where
  x : RunX W wr xb xr g (some l)
set_option maxRecDepth 100000 in
set_option maxHeartbeats 400000 in
theorem add_any (W0 w : World) (xb : Bl) (xr : List Ro) (g : Nat) (st : Option (List UInt8)) (hR : RunX W0 w xb xr g st) (A : Option Addr) (c : Nat) (ps : List Pt) (hp : SPts W0 xb xr A ps) (hn : ps.length ≤ 1000) (hl : (told st).length + (catP ps).length ≤ 1000000) :
    Calls Try.prog 36 #[.pointer (some ⟨g, 0, none⟩), .slice A ps.length c] w fun e w' => e = .returned (.pointer (some ⟨g, 0, none⟩)) ∧ RunX W0 w' xb xr g (some (told st ++ catP ps)) := by
  have HP := Lib.hid hp
  have hl1 : (told st).length ≤ 1000000 := by omega
  obtain ⟨L0, hL0⟩ : ∃ L, told st = L := ⟨_, rfl⟩
  obtain ⟨n, hN⟩ : ∃ n, ps.length = n := ⟨_, rfl⟩
  rw [hN] at hn ⊢
  have HN := Lib.hid hN
  have HLL := Lib.hid hl
  have HL0 := Lib.hid hL0
  obtain ⟨x, hr, ⟨A0, c0, rfl, hs, hc1, hc2⟩, hm⟩ := hR
  have kb := hm.blk []
  obtain ⟨B, hB⟩ : ∃ B, st.isSome = B := ⟨_, rfl⟩
  have q8 : w.cell? ⟨g, 8, none⟩ = some (.bool B) := by
    rw [kb.cell 8, ← hB]
    have := hcs_rest (hw st) (rtl st A0 c0) 0
    rw [hw_len] at this
    exact this
  have HB := Lib.hid hB
  have HM := Lib.hid hm
  have HS := Lib.hid hs
  have hgw := kb.lt
  clear hp hN hl hL0 kb hm hs hB
  go_enter Try.func36, Try.ntmps36
  go_upto_if 13 with (fail)
  go_cut [] (fun wr => AdR W0 wr xb xr g L0)
  case first =>
    cases B with
    | true =>
      obtain ⟨l, rfl⟩ := Option.isSome_iff_exists.1 HB.out
      have T0 := Lib.hid (show AdR W0 w xb xr g L0 from ⟨by
        have : l = L0 := HL0.out
        rw [← this]
        exact ⟨_, hr, ⟨A0, c0, rfl, HS.out, hc1, hc2⟩, HM.out⟩⟩)
      go_wp2_with fail
      go_meet
      exact T0.out
    | false =>
      have hn0 : st = none := by
        have := HB.out
        cases st with
        | none => rfl
        | some l => cases this
      subst hn0
      obtain ⟨KB, hKB⟩ : ∃ K : Array Value, (h0.l.map W).toArray = K := ⟨_, rfl⟩
      have bg := begun_any w
      rw [hKB] at bg
      have BG := Lib.hid bg
      have HKB := Lib.hid (show KB.toList = h0.l.map W by rw [← hKB])
      clear bg
      go_wp2_with fail
      refine BG.out.mono ?_
      rintro e w1 ⟨rfl, hb1⟩
      have m1 := HM.out.below hb1
      have kb1 := m1.blk []
      have ht := Lib.hid (show w1.there g 0 KB.size from hKB ▸ kb1.there (by rw [show rcells none A0 c0 = hcs _ _ from rfl, hcs_size]; exact Nat.le_add_right 8 3))
      have I1 := Lib.hid (show (Try.prog.info? 65).map (·.size) = some KB.size from hKB ▸ info_h8)
      have O1 := Lib.hid (show KB.all (·.oneCell') = true from hKB ▸ h0_one)
      clear hKB
      have m2 := Mst.putCells (bl := []) (wr := w) [] (h0.l.map W) 0 _ _ m1
      have e2 : setAll (rcells none A0 c0) 0 (h0.l.map W) = hcs h0.l [.bool false, .slice A0 0 c0, .int .i64 0] := set_begun _ _
      rw [e2, ← HKB.out] at m2
      have q8 := ((m2.blk []).cell 8).trans (hcs_rest h0.l [.bool false, .slice A0 0 c0, .int .i64 0] 0)
      have f8 := (m2.blk []).fr 8
      have m3 := m2.put [] 8 (.bool true)
      rw [show (hcs h0.l [.bool false, .slice A0 0 c0, .int .i64 0]).setIfInBounds 8 (.bool true) = rcells (some []) A0 c0 from hcs_setR h0.l _ 0 _] at m3
      have hL : L0 = [] := HL0.out.symm
      have t0 : AdR W0 _ xb xr g [] := ⟨⟨_, hr, ⟨A0, c0, rfl, HS.out, hc1, hc2⟩, m3⟩⟩
      rw [← hL] at t0
      have T0 := Lib.hid t0
      clear t0 hL m1 m2 m3 kb1 hb1 e2
      go_wp2_with (first | refine wpList_store_mid rfl _ _ _ rfl g 0 KB rfl rfl ht.out I1.out O1.out ?_)
      go_wp2
      go_meet
      exact T0.out
  case rest =>
    have T0 := Lib.hid hcut
    clear hcut q8 HM HS HB
    go_wp2
    go_loopg [23] n (fun gk s23 wr => ∃ k : Nat, k + gk = n ∧ s23 = .int .i64 k ∧ AdR W0 wr xb xr g (L0 ++ catP (ps.take k)))
    case atStart => exact ⟨0, by omega, rfl, by simpa [catP] using T0.out⟩
    case round =>
      obtain ⟨k, hk, rfl, ⟨x', hr', ⟨A1, c1, rfl, hs, hc1, hc2⟩, hm⟩⟩ := hrel
      by_cases hlt : k < n
      · obtain ⟨p, hpk⟩ : ∃ p, ps[k]? = some p := ⟨_, List.getElem?_eq_getElem (by have := HN.out; omega)⟩
        have hps := hm.pts (HP.out.sub (fun _ h => List.mem_cons_of_mem _ h) (fun _ h => List.mem_append_right _ h))
        obtain ⟨b, o, rfl, hb, hcell⟩ := hps.at_ (by have := HN.out; omega)
        have c0 := hcell k p hpk
        have hsp := HP.out.2 p (List.mem_of_getElem? hpk)
        have e1 := catP_take hpk
        have e2 := catP_le ps (k + 1)
        have e3 : (catP (ps.take (k + 1))).length = (catP (ps.take k)).length + p.l.length := by rw [e1, List.length_append]
        obtain ⟨p, cp, lp⟩ := p
        unfold Pt.v at c0
        simp only at c0 e3 hsp e1
        obtain ⟨T, hT⟩ : ∃ T, L0 ++ catP (ps.take k) = T := ⟨_, rfl⟩
        have hT2 : L0 ++ catP (ps.take (k + 1)) = T ++ lp := by rw [e1, ← hT, List.append_assoc]
        have hbd : T.length + lp.length ≤ 1000000 := by
          have h1 := congrArg List.length hT2
          simp only [List.length_append] at h1
          have h2 := HLL.out
          have h3 := congrArg List.length HL0.out
          omega
        rw [hT] at hs hm hc1
        simp only [told, Option.getD_some] at hs hc1
        have kb := hm.blk []
        have q9 : wr.cell? ⟨g, 9, none⟩ = some (.slice A1 (restA T).length c1) := (kb.cell 9).trans (hcs_rest (shaA h0 T).l (rtl (some T) A1 c1) 1)
        have q10 : wr.cell? ⟨g, 10, none⟩ = some (.int .i64 (T.length : Nat)) := (kb.cell 10).trans (hcs_rest (shaA h0 T).l (rtl (some T) A1 c1) 2)
        have f10 := kb.fr 10
        have f9 := kb.fr 9
        have m1 := hm.put [] 10 (.int .i64 ((T.length + lp.length : Nat) : Int))
        rw [show (rcells (some T) A1 c1).setIfInBounds 10 (.int .i64 ((T.length + lp.length : Nat) : Int)) = hcs (shaA h0 T).l [.bool true, .slice A1 (restA T).length c1, .int .i64 ((T.length + lp.length : Nat) : Int)] from hcs_setR (shaA h0 T).l (rtl (some T) A1 c1) 2 _] at m1
        rw [Int.natCast_add] at m1
        have M1 := Lib.hid m1
        have HT2 := Lib.hid hT2
        have HSP := Lib.hid hsp
        have HS := Lib.hid hs
        have e0 : (0 : Int) ≤ (T.length : Int) := by omega
        have e4 : (T.length : Int) + lp.length ≤ 1000000 := by omega
        have e5 : (0 : Int) ≤ (lp.length : Int) := by omega
        have HG := Lib.hid (show g < wr.heap.size from kb.lt)
        clear e1 e2 e3 hm hcell hs hT hT2 kb m1 hsp hpk hps
        go_upto_region 9 with fail
        clear q10 f10 c0
        generalize wr.setCell ⟨g, 10, none⟩ (.int .i64 ((T.length : Int) + lp.length)) = w1 at M1 ⊢
        have q9 : w1.cell? ⟨g, 9, none⟩ = some (.slice A1 (restA T).length c1) := ((M1.out.blk []).cell 9).trans (hcs_rest (shaA h0 T).l _ 1)
        have hrl : (restA T).length ≤ T.length := by rw [restA_len]; exact Nat.mod_le _ _
        obtain ⟨X, hX⟩ : ∃ X, restA T ++ lp = X := ⟨_, rfl⟩
        have HX := Lib.hid hX
        have HC := Lib.hid (concat2_step W0 w1.drew _ _ (M1.out.drew) ⟨A1, c1, restA T⟩ ⟨p, cp, lp⟩ (HS.out.sub (fun x h => nomatch h) (fun y h => List.mem_append_left _ h)) (HSP.out.sub (fun x h => List.mem_cons_of_mem _ h) (fun y h => List.mem_append_right _ h)) (by simp only; omega) X hX)
        clear f9 hX
        go_region_with (first
          | (refine HC.out.mono ?_; rintro e w3 ⟨A3, c3, rfl, m3, h3a, h3b⟩; have HA := Lib.hid (all_step W0 w3 _ _ g _ _ A3 c3 _ m3 h3a h3b); clear m3)
          | (refine HA.out.mono ?_; rintro e w4 ⟨A4, c4, rfl, m4, s4, h4a, h4b⟩; have k9 := ((m4.blk []).cell 9).trans (hcs_rest _ _ 1); have f9 := (m4.blk []).fr 9; have M4 := Lib.hid m4; have S4 := Lib.hid s4; clear m4 s4))
        go_wp2
        go_roundg (n - (k + 1))
        case measure => exact meas hk hlt
        case rel => exact ⟨k + 1, meas2 hlt, by go_num, ⟨by
          rw [HT2.out]
          have hA := shaA_append h0 T lp
          rw [HX.out] at hA
          have m5 := M4.out.put [] 9 (.slice A4 (restA X).length c4)
          rw [show ∀ (q : List Wd) (hq : q.length = 8) (a b c d : Value), (hcs q [a, b, c]).setIfInBounds 9 d = hcs q [a, d, c] from fun q hq a b c d => by have := hcs_setR q [a, b, c] 1 d; rw [hq] at this; exact this] at m5
          · refine ⟨_, [⟨5, 1, .slice A3 X.length c3, X.length, by8 X⟩], ⟨A4, c4, rfl, ?_, ?_, h4b⟩, ?_⟩
            · show Src W0 [] _ 1 A4 (restA (T ++ lp)).length (by8 (restA (T ++ lp)))
              rw [hA.2]
              exact S4.out
            · show (restA (T ++ lp)).length ≤ c4
              rw [hA.2]
              exact h4a
            · show Mst W0 _ ((g, 67, hcs (shaA h0 (T ++ lp)).l [.bool true, .slice A4 (restA (T ++ lp)).length c4, .int .i64 ((T ++ lp).length : Nat)]) :: xb) _
              rw [hA.1, hA.2, List.length_append, Int.natCast_add]
              exact m5.sub (List.Sublist.refl _) (List.Sublist.cons_cons _ (List.sublist_append_right _ _))
          · rfl⟩⟩
      · obtain rfl : k = n := by omega
        have ht : ps.take k = ps := List.take_of_length_le (by have := HN.out; omega)
        rw [ht] at hs hm hc1
        have TT := Lib.hid (show RunX W0 wr xb xr g (some (L0 ++ catP ps)) from ⟨_, hr', ⟨A1, c1, rfl, hs, hc1, hc2⟩, hm⟩)
        clear hs hm hc1 ht hk hlt
        go_wp2
        go_ret
        exact ⟨rfl, by rw [HL0.out]; exact TT.out⟩
end Go.Proofs.Ythnaobolmgcclaa
