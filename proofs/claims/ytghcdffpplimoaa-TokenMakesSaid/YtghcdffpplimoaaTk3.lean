/- Package token: contract of Proves; the mint: New, Issue, Find, Count, Master. -/
import Derived.Test.YtghcdffpplimoaaTk2
import Derived.Test.YtghcdffpplimoaaCl3
namespace Go.Proofs.Ytghcdffpplimoaa
set_option linter.unusedVariables false
set_option linter.unusedSimpArgs false
open Go.RowKit

set_option maxRecDepth 100000 in
set_option maxHeartbeats 2000000 in
theorem proves_ok (w : World) (gk : Nat) (kb : List UInt8) (hk : KeyW w gk kb) (hl : kb.length ≤ 1000) (i r x s : Int) (hcl : clOk i r x s) (At : Option Addr) (ct : Nat) (tag : List UInt8) (hrt : RB w w.heap.size At tag) (htl : tag.length ≤ 100000)
    (A1 : Option Addr) (c1 : Nat) (ps : List Pt) (hp : Pts w A1 ps) (hn : ps.length ≤ 90) (hpl : ∀ p ∈ ps, p.l.length ≤ 1000) (R : Bool) (hR : decide (tag = prvB (secB kb i r x s) (ps.map Pt.l)) = R) :
    Calls Try.prog 26 #[.pointer (some ⟨gk, 0, none⟩), .agg #[.int .i64 i, .int .i64 r, .int .i64 x, .int .i64 s], .slice At tag.length ct, .slice A1 ps.length c1] w fun e w' => e = .returned (.int .i64 (if R then 0 else 5)) ∧ Below w.heap.size w w' := by
  have HMK := Lib.hid (fun w' (hb : Below w.heap.size w w') => make_ok w' gk kb (hk.keep hb) hl i r x s hcl)
  obtain ⟨S, hS⟩ : ∃ S, secB kb i r x s = S := ⟨_, rfl⟩
  have hSl : S.length = 32 := by rw [← hS]; rfl
  rw [hS] at HMK hR
  have HPR := Lib.hid (fun w' (hb : Below w.heap.size w w') => prove_any w' i r x s S hSl A1 c1 ps (hp.stay hb) hn hpl)
  obtain ⟨T, hT⟩ : ∃ T, prvB S (ps.map Pt.l) = T := ⟨_, rfl⟩
  have hTl : T.length = 32 := by rw [← hT]; rfl
  rw [hT] at HPR hR
  have HCL := Lib.hid (fun w' gt (hb : Below w.heap.size w w') (hc : w'.cell? ⟨gt, 0, none⟩ = some (.slice At tag.length ct)) => proves1_any w' gt At ct tag T hc (RB.keep hrt hb) htl hTl)
  rw [hR] at HCL
  obtain ⟨n, hn1⟩ : ∃ n, tag.length = n := ⟨_, rfl⟩
  obtain ⟨m, hm1⟩ : ∃ n, ps.length = n := ⟨_, rfl⟩
  simp only [hn1, hm1] at HCL HPR ⊢
  have m1 := ((Mst.start w).new 30 #[.int .i64 i, .int .i64 r, .int .i64 x, .int .i64 s]).new 26 #[.slice At n ct]
  rw [show (w.alloc (.cells #[.int .i64 i, .int .i64 r, .int .i64 x, .int .i64 s] 30)).heap.size = w.heap.size + 1 by simp] at m1
  have M1 := Lib.hid m1
  have SL := Lib.hid hSl
  clear hk hp hn hpl hS hSl hT hTl hR hcl hn1 hm1 hrt m1
  go_enter Try.func26, Try.ntmps26
  go_wp2_with fail
  refine (HMK.out _ M1.out.bel).mono ?_
  rintro e w1 ⟨rfl, hb⟩
  have Mq := Lib.hid ((M1.out.below hb).new 78 Y36)
  clear hb
  go_wp2_with (first | refine wpList_store_row rfl _ _ _ rfl w1.heap.size (tkc i r x s S) rfl rfl 78 _ (Bk.mk_ _ _ _) (info_tok SL.out) (y36_k SL.out) (tkc_one _ _ _ _ _) ?_; have Mq := Lib.hid (Mst.setRow (bl := []) [] Mq.out (tkc i r x s S)) | (refine wpList_loadG rfl _ _ rfl w1.heap.size 0 rfl (tkc i r x s S) _ (Bk.range (Mq.out.blk []) (o := 0) (fun j v h => by simpa using h)) Try.underlying78 rfl (info_tok SL.out) ?_))
  refine (HPR.out _ Mq.out.bel).mono ?_
  rintro e w2 ⟨rfl, hb⟩
  have Mq := Lib.hid (Mq.out.below hb)
  have c0 := (Mq.out.blk [_]).cell 0
  simp only [List.getElem?_toArray, List.getElem?_cons_zero] at c0
  clear hb
  go_wp2_with fail
  refine (HCL.out _ _ Mq.out.bel c0).mono ?_
  rintro e w3 ⟨rfl, hb⟩
  have Mq := Lib.hid (Mq.out.below hb)
  clear hb c0
  cases R
  all_goals (
    go_wp2
    go_ret
    exact ⟨rfl, Mq.out.bel⟩)
theorem proves_bad (w : World) (gk : Nat) (i r x s : Int) (hcl : ¬ clOk i r x s) (At A1 : Option Addr) (n ct m c1 : Nat) :
    Calls Try.prog 26 #[.pointer (some ⟨gk, 0, none⟩), .agg #[.int .i64 i, .int .i64 r, .int .i64 x, .int .i64 s], .slice At n ct, .slice A1 m c1] w fun e w' => e = .returned (.int .i64 10) ∧ Below w.heap.size w w' := by
  have HMK := Lib.hid (fun w' => make_bad w' gk i r x s hcl)
  have m1 := ((Mst.start w).new 30 #[.int .i64 i, .int .i64 r, .int .i64 x, .int .i64 s]).new 26 #[.slice At n ct]
  rw [show (w.alloc (.cells #[.int .i64 i, .int .i64 r, .int .i64 x, .int .i64 s] 30)).heap.size = w.heap.size + 1 by simp] at m1
  have M1 := Lib.hid m1
  clear hcl m1
  go_enter Try.func26, Try.ntmps26
  go_wp2_with fail
  refine (HMK.out _).mono ?_
  rintro e w1 ⟨rfl, hb⟩
  have Mq := Lib.hid ((M1.out.below hb).new 78 Y36)
  clear hb
  go_wp2_with (first | refine wpList_store_row rfl _ _ _ rfl w1.heap.size Y36 rfl rfl 78 _ (Bk.mk_ _ _ _) info_y36 rfl y36_one ?_; have Mq := Lib.hid (Mst.setRow (bl := []) [] Mq.out Y36))
  go_ret
  exact ⟨rfl, Mq.out.bel⟩
theorem proves_nil (w : World) (i r x s : Int) (At A1 : Option Addr) (n ct m c1 : Nat) :
    Calls Try.prog 26 #[.pointer none, .agg #[.int .i64 i, .int .i64 r, .int .i64 x, .int .i64 s], .slice At n ct, .slice A1 m c1] w fun e w' => e = .returned (.int .i64 1) ∧ Below w.heap.size w w' := by
  have HMK := Lib.hid (fun w' => make_nil w' i r x s)
  have m1 := ((Mst.start w).new 30 #[.int .i64 i, .int .i64 r, .int .i64 x, .int .i64 s]).new 26 #[.slice At n ct]
  rw [show (w.alloc (.cells #[.int .i64 i, .int .i64 r, .int .i64 x, .int .i64 s] 30)).heap.size = w.heap.size + 1 by simp] at m1
  have M1 := Lib.hid m1
  clear m1
  go_enter Try.func26, Try.ntmps26
  go_wp2_with fail
  refine (HMK.out _).mono ?_
  rintro e w1 ⟨rfl, hb⟩
  have Mq := Lib.hid ((M1.out.below hb).new 78 Y36)
  clear hb
  go_wp2_with (first | refine wpList_store_row rfl _ _ _ rfl w1.heap.size Y36 rfl rfl 78 _ (Bk.mk_ _ _ _) info_y36 rfl y36_one ?_; have Mq := Lib.hid (Mst.setRow (bl := []) [] Mq.out Y36))
  go_ret
  exact ⟨rfl, Mq.out.bel⟩

/-- Claims as cells. -/
def c4v (c : C4) : List Value := [.int .i64 c.1, .int .i64 c.2.1, .int .i64 c.2.2.1, .int .i64 c.2.2.2]
def c4s (cs : List C4) : List Value := cs.flatMap c4v
theorem c4s_snoc (cs : List C4) (c : C4) : c4s (cs ++ [c]) = c4s cs ++ c4v c := by simp [c4s]
theorem c4s_len (cs : List C4) : (c4s cs).length = cs.length * 4 := by
  induction cs with
  | nil => rfl
  | cons c cs ih =>
    have e : c4s (c :: cs) = c4v c ++ c4s cs := by simp [c4s]
    rw [e, List.length_append, ih, List.length_cons]
    show 4 + _ = _
    omega
theorem c4s_get : ∀ (cs : List C4) (k : Nat) (c : C4), cs[k]? = some c → ∀ j v, (c4v c)[j]? = some v → (c4s cs)[k * 4 + j]? = some v
  | [], k, c, h, _, _, _ => by simp at h
  | a :: cs, 0, c, h, j, v, hv => by
    have : a = c := by simpa using h
    subst this
    have hj : j < (c4v a).length := by
      rcases Nat.lt_or_ge j (c4v a).length with h1 | h1
      · exact h1
      · rw [List.getElem?_eq_none h1] at hv; cases hv
    rw [show c4s (a :: cs) = c4v a ++ c4s cs by simp [c4s], Nat.zero_mul, Nat.zero_add, List.getElem?_append_left hj]
    exact hv
  | a :: cs, k + 1, c, h, j, v, hv => by
    have ih := c4s_get cs k c (by simpa using h) j v hv
    rw [show c4s (a :: cs) = c4v a ++ c4s cs by simp [c4s], List.getElem?_append_right (by show 4 ≤ _; omega)]
    rw [show (k + 1) * 4 + j - (c4v a).length = k * 4 + j by show (k + 1) * 4 + j - 4 = _; omega]
    exact ih

/-- A mint in block g, its key in block gk, and what it has issued. -/
def MtX (W : World) (bl : Bl) (ow : List Ro) (g gk : Nat) (kb : List UInt8) (cs : List C4) (w : World) : Prop :=
  ∃ A c Ak ck, Mst W w ((g, 134, #[.slice A cs.length c, .pointer (some ⟨gk, 0, none⟩)]) :: (gk, 129, #[.slice Ak kb.length ck]) :: bl) (⟨30, 4, .slice A cs.length c, cs.length, c4s cs⟩ :: ⟨5, 1, .slice Ak kb.length ck, kb.length, by8 kb⟩ :: ow)
section
variable {W w w' : World} {bl : Bl} {ow : List Ro} {g gk : Nat} {kb : List UInt8} {cs : List C4}
theorem MtX.below (h : MtX W bl ow g gk kb cs w) (hb : Below w.heap.size w w') : MtX W bl ow g gk kb cs w' := by
  obtain ⟨A, c, Ak, ck, m⟩ := h
  exact ⟨A, c, Ak, ck, m.below hb⟩
theorem MtX.bel (h : MtX W bl ow g gk kb cs w) : Below W.heap.size W w := by
  obtain ⟨A, c, Ak, ck, m⟩ := h
  exact m.bel
theorem MtX.key (h : MtX W bl ow g gk kb cs w) : KeyW w gk kb := by
  obtain ⟨A, c, Ak, ck, m⟩ := h
  exact m.key (List.mem_cons_of_mem _ (List.mem_cons_self ..)) rfl (m.rowSrc (e := 5) (List.mem_cons_of_mem _ (List.mem_cons_self ..)))
theorem MtX.newb (h : MtX W bl ow g gk kb cs w) (t : TypeId) (zs : Array Value) : MtX W ((w.heap.size, t, zs) :: bl) ow g gk kb cs (w.alloc (.cells zs t)) := by
  obtain ⟨A, c, Ak, ck, m⟩ := h
  exact ⟨A, c, Ak, ck, (m.new t zs).perm ((List.Perm.swap _ _ _).trans (List.Perm.cons _ (List.Perm.swap _ _ _))) (List.Perm.refl _)⟩
theorem MtX.setRow {r : Nat} {t : TypeId} {zs : Array Value} (h : MtX W ((r, t, zs) :: bl) ow g gk kb cs w) (zs' : Array Value) : MtX W ((r, t, zs') :: bl) ow g gk kb cs (w.setRow r zs') := by
  obtain ⟨A, c, Ak, ck, m⟩ := h
  exact ⟨A, c, Ak, ck, Mst.setRow (bl := []) [_, _] m zs'⟩
theorem MtX.blk (h : MtX W bl ow g gk kb cs w) {x : Nat × TypeId × Array Value} (hx : x ∈ bl) : Bk w x.1 x.2.1 x.2.2 := by
  obtain ⟨A, c, Ak, ck, m⟩ := h
  exact (m.bk x (List.mem_cons_of_mem _ (List.mem_cons_of_mem _ hx))).1
theorem MtX.sub {bl' : Bl} {ow' : List Ro} (h : MtX W bl ow g gk kb cs w) (h1 : List.Sublist bl' bl) (h2 : List.Sublist ow' ow) : MtX W bl' ow' g gk kb cs w := by
  obtain ⟨A, c, Ak, ck, m⟩ := h
  exact ⟨A, c, Ak, ck, m.sub ((h1.cons_cons _).cons_cons _) ((h2.cons_cons _).cons_cons _)⟩
theorem MtX.mst (h : MtX W bl ow g gk kb cs w) : Mst W w bl ow := by
  obtain ⟨A, c, Ak, ck, m⟩ := h
  exact m.sub ((List.sublist_cons_self _ _).cons _) ((List.sublist_cons_self _ _).cons _)
theorem MtX.cells (h : MtX W bl ow g gk kb cs w) : ∃ A c, w.cell? ⟨g, 0, none⟩ = some (.slice A cs.length c) ∧ w.cell? ⟨g, 1, none⟩ = some (.pointer (some ⟨gk, 0, none⟩)) ∧ Rd w w.heap.size 4 A cs.length (c4s cs) ∧ cs.length ≤ c ∧ c ≤ 9223372036854775807 := by
  obtain ⟨A, c, Ak, ck, m⟩ := h
  have hr := m.row []
  refine ⟨A, c, (m.blk []).cell 0, (m.blk []).cell 1, own_rd hr, ?_⟩
  rcases hr.2 with ⟨h1, h2⟩ | ⟨g2, cap, cur, h1, _, _, h4, h5, _⟩
  · injection h1 with _ _ h1
    omega
  · injection h1 with _ _ h1
    unfold maxLen at h5
    omega
end

theorem tnew_no (w : World) (A : Option Addr) (n c : Nat) (h : n < 16) :
    Calls Try.prog 34 #[.slice A n c] w fun e w' => e = .returned (.tuple #[.pointer none, .int .i64 1]) ∧ w = w' := by
  have i1 : (n : Int) < 16 := by omega
  go_enter Try.func34, Try.ntmps34
  go_wp2
  go_ret2
  exact ⟨rfl, rfl⟩
set_option maxRecDepth 100000 in
set_option maxHeartbeats 1000000 in
theorem tnew_any (W w : World) (bl : Bl) (ow : List Ro) (hm : Mst W w bl ow) (A : Option Addr) (c : Nat) (l : List UInt8) (hr : RB w w.heap.size A l) (h16 : 16 ≤ l.length) (hl : l.length ≤ 1000) :
    Calls Try.prog 34 #[.slice A l.length c] w fun e w' => ∃ g gk, e = .returned (.tuple #[.pointer (some ⟨g, 0, none⟩), .int .i64 0]) ∧ MtX W bl ow g gk l [] w' := by
  have HN := Lib.hid (new_M W w bl ow hm A c l hr (by omega))
  obtain ⟨n, hn⟩ : ∃ n, l.length = n := ⟨_, rfl⟩
  have i1 : ¬ (n : Int) < 16 := by omega
  have HNN := Lib.hid hn
  rw [hn] at HN ⊢
  clear hm hr hn h16 hl
  go_enter Try.func34, Try.ntmps34
  go_wp2_with fail
  refine HN.out.mono ?_
  rintro e w1 ⟨gk, Ak, ck, rfl, m⟩
  have m2 := (m.nilrow 30 4).new 134 #[.slice none 0 0, .pointer (some ⟨gk, 0, none⟩)]
  have HM := Lib.hid m2
  clear m m2
  go_wp2
  go_ret2
  refine ⟨_, gk, rfl, none, 0, Ak, ck, ?_⟩
  rw [HNN.out]
  exact HM.out
theorem count_any6 (W w : World) (bl : Bl) (ow : List Ro) (g gk : Nat) (kb : List UInt8) (cs : List C4) (hM : MtX W bl ow g gk kb cs w) :
    Calls Try.prog 39 #[.pointer (some ⟨g, 0, none⟩)] w fun e w' => e = .returned (.int .i64 cs.length) ∧ w = w' := by
  obtain ⟨A, c, c0, c1, hr, hc, hc2⟩ := hM.cells
  obtain ⟨n, hn⟩ : ∃ n, cs.length = n := ⟨_, rfl⟩
  rw [hn] at c0 ⊢
  clear hM hr hn c1
  go_enter Try.func39, Try.ntmps39
  go_wp2
  go_ret
  exact ⟨rfl, rfl⟩
theorem count_nil6 (w : World) : Calls Try.prog 39 #[.pointer none] w fun e w' => e = .returned (.int .i64 0) ∧ w = w' := by
  go_enter Try.func39, Try.ntmps39
  go_wp2
  go_ret
  exact ⟨rfl, rfl⟩
theorem master_nil (w : World) : Calls Try.prog 35 #[.pointer none] w fun e w' => e = .returned (.pointer none) ∧ w = w' := by
  go_enter Try.func35, Try.ntmps35
  go_wp2
  go_ret
  exact ⟨rfl, rfl⟩
set_option maxHeartbeats 1000000 in
theorem master_any (W w : World) (bl : Bl) (ow : List Ro) (g gk : Nat) (kb : List UInt8) (hl : kb.length ≤ 1000) (cs : List C4) (hM : MtX W bl ow g gk kb cs w) :
    Calls Try.prog 35 #[.pointer (some ⟨g, 0, none⟩)] w fun e w' => ∃ gk', e = .returned (.pointer (some ⟨gk', 0, none⟩)) ∧ KeyW w' gk' kb ∧ Below w.heap.size w w' := by
  obtain ⟨A, c, c0, c1, hr, hc, hc2⟩ := hM.cells
  have HKB := Lib.hid (kbytes_any w gk kb hM.key (by omega))
  have HNW := Lib.hid (fun w' A c h => new_any w' A c kb h (by omega))
  obtain ⟨n, hn⟩ : ∃ n, kb.length = n := ⟨_, rfl⟩
  rw [hn] at HKB
  simp only [hn] at HNW
  have HN := Lib.hid hn
  clear hM hr hn c0 hl hc hc2
  go_enter Try.func35, Try.ntmps35
  go_wp2_with fail
  refine HKB.out.mono ?_
  rintro e w1 ⟨v, rfl, hf⟩
  obtain ⟨A1, c2, rfl, -⟩ := own_form hf.own
  have HB := Lib.hid hf.bel
  have HR := Lib.hid (show RB w1 w1.heap.size A1 kb from by
    have := own_rd hf.own
    rw [← HN.out] at this
    exact this)
  clear hf
  go_wp2_with fail
  refine (HNW.out _ _ _ HR.out).mono ?_
  rintro e w2 ⟨gk', rfl, hk, hb⟩
  have HK := Lib.hid hk
  have HB2 := Lib.hid (Bsz HB.out hb)
  clear hk hb
  go_wp2
  go_ret
  exact ⟨gk', rfl, HK.out, HB2.out⟩
end Go.Proofs.Ytghcdffpplimoaa
