/- Contracts of package wire: the reader's Get. -/
import Derived.Test.YtnbemfceoianiaaRd2
import Derived.Test.YtnbemfceoianiaaBaseB
namespace Go.Proofs.Ytnbemfceoianiaa
set_option linter.unusedVariables false
open Go.RowKit

section
variable {W w w' : World} {xb bl : Bl} {xr ow : List Ro} {g : Nat} {st : RS}
theorem RrX.newb (h : RrX W xb xr bl ow g st w) (t : TypeId) (cs : Array Value) : RrX W ((w.heap.size, t, cs) :: xb) xr bl ow g st (w.alloc (.cells cs t)) := by
  obtain ⟨A, c, h1, h2, h3⟩ := h
  exact ⟨A, c, (h1.new t cs).perm (List.Perm.swap _ _ _) (List.Perm.refl _), h2, h3⟩
theorem RrX.lt (h : RrX W xb xr bl ow g st w) : g < w.heap.size := by
  obtain ⟨A, c, h1, _⟩ := h
  exact (h1.blk []).lt
theorem RrX.blk (h : RrX W xb xr bl ow g st w) {x : Nat × TypeId × Array Value} (hx : x ∈ xb ++ bl) : Bk w x.1 x.2.1 x.2.2 := by
  obtain ⟨A, c, h1, _⟩ := h
  exact (h1.bk x (List.mem_cons_of_mem _ hx)).1
/-- The error's cell. -/
theorem RrX.err (h : RrX W xb xr bl ow g st w) : w.cell? ⟨g, 1, none⟩ = some (.int .i64 st.2) := by
  obtain ⟨A, c, h1, _⟩ := h
  exact (h1.blk []).cell 1
theorem RrX.bytes (h : RrX W xb xr bl ow g st w) : ∃ A c, w.cell? ⟨g, 0, none⟩ = some (.slice A st.1.length c) := by
  obtain ⟨A, c, h1, _⟩ := h
  exact ⟨A, c, (h1.blk []).cell 0⟩
theorem RrX.nilr (h : RrX W xb xr bl ow g st w) (e : TypeId) (size : Nat) : RrX W xb (⟨e, size, .slice none 0 0, 0, []⟩ :: xr) bl ow g st w := by
  obtain ⟨A, c, h1, h2, h3⟩ := h
  exact ⟨A, c, h1.nilrow e size, h2, h3⟩
theorem RrX.addr (h : RrX W xb xr bl ow g st w) {e size n : Nat} {v : Value} {xs : List Value} (hf : Fresh w w' e size v n xs) : RrX W xb (⟨e, size, v, n, xs⟩ :: xr) bl ow g st w' := by
  obtain ⟨A, c, h1, h2, h3⟩ := h
  exact ⟨A, c, h1.addr hf, h2, h3⟩
theorem RrX.dropb {x : Nat × TypeId × Array Value} (h : RrX W (x :: xb) xr bl ow g st w) : RrX W xb xr bl ow g st w := by
  obtain ⟨A, c, h1, h2, h3⟩ := h
  exact ⟨A, c, h1.sub (List.Sublist.cons_cons _ (List.sublist_cons_self _ _)) (List.Sublist.refl _), h2, h3⟩
theorem RrX.dropr {x : Ro} (h : RrX W xb (x :: xr) bl ow g st w) : RrX W xb xr bl ow g st w := by
  obtain ⟨A, c, h1, h2, h3⟩ := h
  exact ⟨A, c, h1.dropr, h2, h3⟩
theorem RrX.put {r : Nat} {t : TypeId} {cs : Array Value} (h : RrX W ((r, t, cs) :: xb) xr bl ow g st w) (i : Nat) (u : Value) : RrX W ((r, t, cs.setIfInBounds i u) :: xb) xr bl ow g st (w.setCell ⟨r, i, none⟩ u) := by
  obtain ⟨A, c, h1, h2, h3⟩ := h
  exact ⟨A, c, Mst.put [_] h1 i u, h2, h3⟩
end
/-- What Get hands out. -/
def GetPost (W : World) (xb : Bl) (xr : List Ro) (bl : Bl) (ow : List Ro) (g : Nat) (st : RS) (s : Int) (e : Ending) (w' : World) : Prop :=
  ∃ A c, e = .returned (.agg #[.int .i64 (getF st s).1, .int .i64 (getF st s).2.1, .slice A (getF st s).2.2.length c]) ∧
    RrX W xb (⟨5, 1, .slice A (getF st s).2.2.length c, (getF st s).2.2.length, by8 (getF st s).2.2⟩ :: xr) bl ow g (getS st s) w'
theorem getPost_none {W w : World} {xb : Bl} {xr : List Ro} {bl : Bl} {ow : List Ro} {g r : Nat} {t : TypeId} {cs : Array Value} {st st' : RS} {s : Int} (hf : getF st s = gNone) (hs : getS st s = st') (h : RrX W ((r, t, cs) :: xb) xr bl ow g st' w) :
    GetPost W xb xr bl ow g st s (.returned (.agg #[.int .i64 0, .int .i64 0, .slice none 0 0])) (((w.setCell ⟨r, 0, none⟩ (.int .i64 0)).setCell ⟨r, 1, none⟩ (.int .i64 0)).setCell ⟨r, 2, none⟩ (.slice none 0 0)) := by
  refine ⟨none, 0, by rw [hf]; rfl, ?_⟩
  rw [hf, hs]
  exact (((h.put 0 _).put 1 _).put 2 _).dropb.nilr _ _

set_option maxRecDepth 100000 in
set_option maxHeartbeats 3200000 in
theorem get_kind (W w : World) (xb : Bl) (xr : List Ro) (bl : Bl) (ow : List Ro) (g : Nat) (st : RS) (hR : RrX W xb xr bl ow g st w) (s : Int) (h0 : s < 0 ∨ 4 < s) :
    Calls Try.prog 58 #[.pointer (some ⟨g, 0, none⟩), .int .i64 s] w (GetPost W xb xr bl ow g st s) := by
  have HR := Lib.hid (hR.newb 107 #[.int .i64 0, .int .i64 0, .slice none 0 0])
  have hg := hR.lt
  have HF := Lib.hid (show getF st s = gNone from if_pos h0)
  have HS := Lib.hid (show getS st s = failR st 13 from if_pos h0)
  clear hR
  have h1 : s < 0 ∨ (0 ≤ s ∧ 4 < s) := by omega
  clear h0
  rcases h1 with h0 | ⟨h0, h4⟩
  all_goals
    go_enter Try.func58, Try.ntmps58
    go_wp2_with fail
    refine (fail_any W _ _ xr bl ow g _ HR.out 13).mono ?_
    rintro e w1 ⟨rfl, h1⟩
    have kb := h1.blk (List.mem_cons_self ..)
    have k0 := kb.cell 0
    have k1 := kb.cell 1
    have k2 := kb.cell 2
    have q0 := kb.fr 0
    have q1 := kb.fr 1
    have q2 := kb.fr 2
    simp at k0 k1 k2 q0 q1 q2
    have H1 := Lib.hid h1
    clear h1 kb
    go_wp2_with fail
    exact bodyPost_ret (v := .agg #[.int .i64 0, .int .i64 0, .slice none 0 0]) (by simp [results, Try.results58, go_sem, k0, k1, k2]) rfl (getPost_none HF.out HS.out H1.out)

set_option maxRecDepth 100000 in
set_option maxHeartbeats 3200000 in
theorem get_num (W w : World) (xb : Bl) (xr : List Ro) (bl : Bl) (ow : List Ro) (g : Nat) (st : RS) (hR : RrX W xb xr bl ow g st w) (s : Int) (h0 : 0 ≤ s) (h3 : s ≤ 3) :
    Calls Try.prog 58 #[.pointer (some ⟨g, 0, none⟩), .int .i64 s] w (GetPost W xb xr bl ow g st s) := by
  have HR := Lib.hid (hR.newb 107 #[.int .i64 0, .int .i64 0, .slice none 0 0])
  have hg := hR.lt
  have HF : Hid (getF st s = if numO st (widB s) then (s, (numV st (widB s) : Int), []) else gNone) := by
    show _ = _
    unfold getF
    rw [if_neg (by omega), if_pos (by omega)]
  have HS : Hid (getS st s = numS st (widB s)) := by
    show _ = _
    unfold getS
    rw [if_neg (by omega), if_pos (by omega)]
  clear hR
  obtain ⟨O, hO⟩ : ∃ O, numO st (widB s) = O := ⟨_, rfl⟩
  obtain ⟨V, hV⟩ : ∃ V, numV st (widB s) = V := ⟨_, rfl⟩
  have hnum : Calls Try.prog 73 #[.pointer (some ⟨g, 0, none⟩), .int .i64 s] (w.alloc (.cells #[.int .i64 0, .int .i64 0, .slice none 0 0] 107)) fun e w' =>
      e = .returned (.tuple #[.int .i64 (V : Nat), .bool O]) ∧ RrX W ((w.heap.size, 107, #[.int .i64 0, .int .i64 0, .slice none 0 0]) :: xb) xr bl ow g (numS st (widB s)) w' := by
    have := rnumber_any W _ _ xr bl ow g st HR.out s h0 h3
    unfold NumPost at this
    rw [hO, hV] at this
    exact this
  have HN := Lib.hid hnum
  have HE := Lib.hid (And.intro hO hV)
  clear hnum hO hV
  cases O with
  | false =>
    go_enter Try.func58, Try.ntmps58
    go_wp2_with fail
    refine HN.out.mono ?_
    rintro e w1 ⟨rfl, h1⟩
    have kb := h1.blk (List.mem_cons_self ..)
    have k0 := kb.cell 0
    have k1 := kb.cell 1
    have k2 := kb.cell 2
    have q0 := kb.fr 0
    have q1 := kb.fr 1
    have q2 := kb.fr 2
    simp at k0 k1 k2 q0 q1 q2
    have H1 := Lib.hid h1
    clear h1 kb
    go_wp2_with fail
    exact bodyPost_ret (v := .agg #[.int .i64 0, .int .i64 0, .slice none 0 0]) (by simp [results, Try.results58, go_sem, k0, k1, k2]) rfl (getPost_none (by rw [HF.out, HE.out.1]; rfl) HS.out H1.out)
  | true =>
    go_enter Try.func58, Try.ntmps58
    go_wp2_with fail
    refine HN.out.mono ?_
    rintro e w1 ⟨rfl, h1⟩
    have kb := h1.blk (List.mem_cons_self ..)
    have k0 := kb.cell 0
    have k1 := kb.cell 1
    have k2 := kb.cell 2
    have q0 := kb.fr 0
    have q1 := kb.fr 1
    have q2 := kb.fr 2
    simp at k0 k1 k2 q0 q1 q2
    have H1 := Lib.hid h1
    clear h1 kb
    go_wp2_with fail
    refine bodyPost_ret (v := .agg #[.int .i64 s, .int .i64 (V : Nat), .slice none 0 0]) (by simp [results, Try.results58, go_sem, k0, k1, k2]) rfl ⟨none, 0, ?_, ?_⟩
    · rw [HF.out, HE.out.1, HE.out.2]; rfl
    · rw [HF.out, HE.out.1, HS.out]
      exact (((H1.out.put 0 _).put 1 _).put 2 _).dropb.nilr _ _

set_option maxRecDepth 100000 in
set_option maxHeartbeats 3200000 in
theorem get_some (W w : World) (xb : Bl) (xr : List Ro) (bl : Bl) (ow : List Ro) (g : Nat) (st : RS) (hR : RrX W xb xr bl ow g st w) :
    Calls Try.prog 58 #[.pointer (some ⟨g, 0, none⟩), .int .i64 4] w (GetPost W xb xr bl ow g st 4) := by
  have HR := Lib.hid (hR.newb 107 #[.int .i64 0, .int .i64 0, .slice none 0 0])
  have hg := hR.lt
  have HF : Hid (getF st 4 = if numO st 2 = true ∧ numV st 2 ≤ 512 ∧ (restR (numS st 2) (numV st 2)).2 = 0 then (4, 0, takeR (numS st 2) (numV st 2)) else gNone) := by
    show _ = _
    unfold getF
    rw [if_neg (by omega), if_neg (by omega)]
  have HS : Hid (getS st 4 = if numO st 2 = true then (if 512 < numV st 2 then failR (numS st 2) 3 else restR (numS st 2) (numV st 2)) else numS st 2) := by
    show _ = _
    unfold getS
    rw [if_neg (by omega), if_neg (by omega)]
  clear hR
  obtain ⟨O, hO⟩ : ∃ O, numO st 2 = O := ⟨_, rfl⟩
  obtain ⟨V, hV⟩ : ∃ V, numV st 2 = V := ⟨_, rfl⟩
  have hnum : Calls Try.prog 73 #[.pointer (some ⟨g, 0, none⟩), .int .i64 1] (w.alloc (.cells #[.int .i64 0, .int .i64 0, .slice none 0 0] 107)) fun e w' =>
      e = .returned (.tuple #[.int .i64 (V : Nat), .bool O]) ∧ RrX W ((w.heap.size, 107, #[.int .i64 0, .int .i64 0, .slice none 0 0]) :: xb) xr bl ow g (numS st 2) w' := by
    have := rnumber_any W _ _ xr bl ow g st HR.out 1 (by omega) (by omega)
    unfold NumPost at this
    rw [show widB 1 = 2 from rfl, hO, hV] at this
    exact this
  have HN := Lib.hid hnum
  rw [hO, hV] at HF HS
  obtain ⟨sn, hsn⟩ : ∃ sn, numS st 2 = sn := ⟨_, rfl⟩
  rw [hsn] at HF HS HN
  clear hnum hO hV hsn
  cases O with
  | false =>
    have hF := Lib.hid (show getF st 4 = gNone by rw [HF.out]; simp)
    have hS := Lib.hid (show getS st 4 = sn by rw [HS.out]; rfl)
    clear HF HS
    go_enter Try.func58, Try.ntmps58
    go_wp2_with fail
    refine HN.out.mono ?_
    rintro e w1 ⟨rfl, h1⟩
    have kb := h1.blk (List.mem_cons_self ..)
    have k0 := kb.cell 0
    have k1 := kb.cell 1
    have k2 := kb.cell 2
    have q0 := kb.fr 0
    have q1 := kb.fr 1
    have q2 := kb.fr 2
    simp at k0 k1 k2 q0 q1 q2
    have H1 := Lib.hid h1
    clear h1 kb
    go_wp2_with fail
    exact bodyPost_ret (v := .agg #[.int .i64 0, .int .i64 0, .slice none 0 0]) (by simp [results, Try.results58, go_sem, k0, k1, k2]) rfl (getPost_none hF.out hS.out H1.out)
  | true =>
    by_cases hlong : 512 < V
    · have hF := Lib.hid (show getF st 4 = gNone by rw [HF.out, if_neg (by omega)])
      have hS := Lib.hid (show getS st 4 = failR sn 3 by rw [HS.out, if_pos rfl, if_pos hlong])
      clear HF HS
      go_enter Try.func58, Try.ntmps58
      go_wp2_with fail
      refine HN.out.mono ?_
      rintro e w0 ⟨rfl, h0⟩
      have H0 := Lib.hid h0
      clear h0
      go_wp2_with fail
      refine (fail_any W _ _ xr bl ow g _ H0.out 3).mono ?_
      rintro e w1 ⟨rfl, h1⟩
      have kb := h1.blk (List.mem_cons_self ..)
      have k0 := kb.cell 0
      have k1 := kb.cell 1
      have k2 := kb.cell 2
      have q0 := kb.fr 0
      have q1 := kb.fr 1
      have q2 := kb.fr 2
      simp at k0 k1 k2 q0 q1 q2
      have H1 := Lib.hid h1
      clear h1 kb
      go_wp2_with fail
      exact bodyPost_ret (v := .agg #[.int .i64 0, .int .i64 0, .slice none 0 0]) (by simp [results, Try.results58, go_sem, k0, k1, k2]) rfl (getPost_none hF.out hS.out H1.out)
    · have hl : (V : Int) ≤ 512 := by omega
      by_cases he : (restR sn V).2 = 0
      · have he' : ((restR sn V).2 != 0) = false := by rw [he]; rfl
        have hF := Lib.hid (show getF st 4 = (4, 0, takeR sn V) by rw [HF.out, if_pos ⟨rfl, by omega, he⟩])
        have hS := Lib.hid (show getS st 4 = restR sn V by rw [HS.out, if_pos rfl, if_neg hlong])
        clear he HF HS
        go_enter Try.func58, Try.ntmps58
        go_wp2_with fail
        refine HN.out.mono ?_
        rintro e w0 ⟨rfl, h0⟩
        have H0 := Lib.hid h0
        clear h0
        go_wp2_with fail
        refine (rtake_any W _ _ xr bl ow g _ H0.out V (by omega)).mono ?_
        rintro e w1 ⟨A, c, rfl, hs, h1⟩
        have e1 := h1.err
        obtain ⟨_, _, m1, _⟩ := id h1
        have HD := Lib.hid (m1.src (hs.sub (fun _ h => List.mem_cons_of_mem _ (List.mem_append_right _ h)) (fun _ h => List.mem_append_right _ h)))
        have hbl := takeR_len2 sn V
        have H1 := Lib.hid h1
        clear h1 m1 hs
        go_wp2_with fail
        refine (clone_any _ _ _ _ HD.out (by omega)).mono ?_
        rintro e w2 ⟨v2, rfl, hf⟩
        obtain ⟨A2, c2, rfl, _⟩ := own_form hf.own
        have h1 := H1.out.addr hf
        have HX := Lib.hid h1
        have kb := h1.blk (List.mem_cons_self ..)
        have k0 := kb.cell 0
        have k1 := kb.cell 1
        have k2 := kb.cell 2
        have q0 := kb.fr 0
        have q1 := kb.fr 1
        have q2 := kb.fr 2
        simp at k0 k1 k2 q0 q1 q2
        clear h1 kb hf e1
        go_wp2_with fail
        refine bodyPost_ret (v := .agg #[.int .i64 4, .int .i64 0, .slice A2 (takeR sn V).length c2]) (by simp [results, Try.results58, go_sem, k0, k1, k2]) rfl ⟨A2, c2, ?_, ?_⟩
        · rw [hF.out]
        · rw [hF.out, hS.out]
          exact (((HX.out.put 0 _).put 1 _).put 2 _).dropb
      · have he' : ((restR sn V).2 != 0) = true := by simpa using he
        have hF := Lib.hid (show getF st 4 = gNone by rw [HF.out, if_neg (fun h => he h.2.2)])
        have hS := Lib.hid (show getS st 4 = restR sn V by rw [HS.out, if_pos rfl, if_neg hlong])
        clear he HF HS
        go_enter Try.func58, Try.ntmps58
        go_wp2_with fail
        refine HN.out.mono ?_
        rintro e w0 ⟨rfl, h0⟩
        have H0 := Lib.hid h0
        clear h0
        go_wp2_with fail
        refine (rtake_any W _ _ xr bl ow g _ H0.out V (by omega)).mono ?_
        rintro e w1 ⟨A, c, rfl, hs, h1⟩
        have e1 := h1.err
        have kb := h1.blk (List.mem_cons_self ..)
        have k0 := kb.cell 0
        have k1 := kb.cell 1
        have k2 := kb.cell 2
        have q0 := kb.fr 0
        have q1 := kb.fr 1
        have q2 := kb.fr 2
        simp at k0 k1 k2 q0 q1 q2
        have H1 := Lib.hid h1
        clear h1 hs kb
        go_wp2_with fail
        exact bodyPost_ret (v := .agg #[.int .i64 0, .int .i64 0, .slice none 0 0]) (by simp [results, Try.results58, go_sem, k0, k1, k2]) rfl (getPost_none hF.out hS.out H1.out)

theorem get_any (W w : World) (xb : Bl) (xr : List Ro) (bl : Bl) (ow : List Ro) (g : Nat) (st : RS) (hR : RrX W xb xr bl ow g st w) (s : Int) :
    Calls Try.prog 58 #[.pointer (some ⟨g, 0, none⟩), .int .i64 s] w (GetPost W xb xr bl ow g st s) := by
  by_cases h : s < 0 ∨ 4 < s
  · exact get_kind W w xb xr bl ow g st hR s h
  · by_cases h4 : s = 4
    · subst h4; exact get_some W w xb xr bl ow g st hR
    · exact get_num W w xb xr bl ow g st hR s (by omega) (by omega)
end Go.Proofs.Ytnbemfceoianiaa
