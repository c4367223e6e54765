/- WindowOnce: the walk of the law: no nonce is taken twice; nonces that rise are all taken. -/
import Derived.Test.YtidphalfafaniaaWinT
import Derived.Test.YtidphalfafaniaaWinK
import Derived.Test.YtidphalfafaniaaOpen
import Derived.Test.YtidphalfafaniaaEq2
import Derived.Deep.LoopGhost
import Derived.Deep.RegionWith
namespace Go.Proofs.Ytidphalfafaniaa
set_option linter.unusedVariables false
open Go.RowKit

theorem info_nonce : (Try.prog.info? 28).map (fun i => (i.zero, i.size, i.bytes)) = some (some (.agg #[.int .i64 0, .int .i64 0]), 2, 16) := by kernel_rfl

namespace Once
/-- The memory of the law in a round: two windows, the last one that rose, those that were taken. -/
structure St (W wr : World) (s5 : Value) (m : List (Int × Int)) (B C : Int) (S : Nat) (B' C' : Int) (S' : Nat) (lb lc : Int) : Prop where
  w : Bk wr W.heap.size 27 (wcs B C S)
  v : Bk wr (W.heap.size + 1) 27 (wcs B' C' S')
  l : Bk wr (W.heap.size + 1 + 1) 28 #[.int .i64 lb, .int .i64 lc]
  t : wr.ownsRow (W.heap.size + 3) 28 2 s5 m.length (prs m)
  bel : Below W.heap.size W wr

section
variable {W wr w' : World} {s5 : Value} {m : List (Int × Int)} {B C : Int} {S : Nat} {B' C' : Int} {S' : Nat} {lb lc : Int}
theorem St.below (h : St W wr s5 m B C S B' C' S' lb lc) (hb : Below wr.heap.size wr w') : St W w' s5 m B C S B' C' S' lb lc :=
  ⟨h.w.below hb h.w.lt, h.v.below hb h.v.lt, h.l.below hb h.l.lt, h.t.kept (row := none) ⟨hb.os, hb.tape, hb.output, hb.size, fun i hi _ => hb.block i hi⟩ (by
    rcases hv : s5.ownBlock with _ | g
    · exact .inl rfl
    · exact .inr (by simp)), h.bel.trans (hb.mono h.bel.size)⟩
theorem St.last (h : St W wr s5 m B C S B' C' S' lb lc) {lb' lc' : Int} (e1 : lb' = lb) (e2 : lc' = lc) : St W wr s5 m B C S B' C' S' lb' lc' := by
  subst e1 e2
  exact h
theorem St.own_le (h : St W wr s5 m B C S B' C' S' lb lc) : W.heap.size + 3 ≤ wr.heap.size := by
  have := h.l.lt
  omega
theorem St.drewN (h : St W wr s5 m B C S B' C' S' lb lc) (n : Nat) : St W (wr.drewN n) s5 m B C S B' C' S' lb lc := h.below (Bdn (Below.refl _ _) n)
theorem St.drew (h : St W wr s5 m B C S B' C' S' lb lc) : St W wr.drew s5 m B C S B' C' S' lb lc := h.below (Below.refl _ _).drew
theorem St.alloc (h : St W wr s5 m B C S B' C' S' lb lc) (o : Obj) : St W (wr.alloc o) s5 m B C S B' C' S' lb lc := h.below ((Below.refl _ _).alloc (Nat.le_refl _) _)
theorem St.own_ne (h : St W wr s5 m B C S B' C' S' lb lc) {g : Nat} (hg : g < W.heap.size + 3) : s5.ownBlock = none ∨ s5.ownBlock ≠ some g := by
  rcases hv : s5.ownBlock with _ | g'
  · exact .inl rfl
  · have := (h.t.lt g' hv).1
    exact .inr (by intro e; injection e; omega)
theorem St.onW (h : St W wr s5 m B C S B' C' S' lb lc) {B1 C1 : Int} {S1 : Nat} (ho : On wr w' W.heap.size) (hk : Bk w' W.heap.size 27 (wcs B1 C1 S1)) : St W w' s5 m B1 C1 S1 B' C' S' lb lc :=
  ⟨hk, ho.bk h.v (by omega), ho.bk h.l (by omega), h.t.kept ho (h.own_ne (by omega)), h.bel.trans (ho.below (Nat.le_refl _) h.bel.size)⟩
theorem St.onV (h : St W wr s5 m B C S B' C' S' lb lc) {B1 C1 : Int} {S1 : Nat} (ho : On wr w' (W.heap.size + 1)) (hk : Bk w' (W.heap.size + 1) 27 (wcs B1 C1 S1)) : St W w' s5 m B C S B1 C1 S1 lb lc :=
  ⟨ho.bk h.w (by omega), hk, ho.bk h.l (by omega), h.t.kept ho (h.own_ne (by omega)), h.bel.trans (ho.below (by omega) h.bel.size)⟩
theorem St.setL (h : St W wr s5 m B C S B' C' S' lb lc) (x y : Int) : St W ((wr.setCell ⟨W.heap.size + 1 + 1, 0, none⟩ (.int .i64 x)).setCell ⟨W.heap.size + 1 + 1, 1, none⟩ (.int .i64 y)) s5 m B C S B' C' S' x y := by
  have ho : On wr ((wr.setCell ⟨W.heap.size + 1 + 1, 0, none⟩ (.int .i64 x)).setCell ⟨W.heap.size + 1 + 1, 1, none⟩ (.int .i64 y)) (W.heap.size + 1 + 1) := ((On.refl wr _).set (p := ⟨W.heap.size + 1 + 1, 0, none⟩) (.inl rfl) _).set (p := ⟨W.heap.size + 1 + 1, 1, none⟩) (.inl rfl) _
  exact ⟨ho.bk h.w (by omega), ho.bk h.v (by omega), ((h.l.put 0 _).put 1 _).of_eq (by simp), h.t.kept ho (h.own_ne (by omega)), h.bel.trans (ho.below (by omega) h.bel.size)⟩
theorem St.app (h : St W wr s5 m B C S B' C' S' lb lc) {v' : Value} {x : Int × Int} (hg : wr.grownBy w' s5.ownBlock) (ho : w'.ownsRow (W.heap.size + 3) 28 2 v' (m.length + 1) (prs m ++ [.int .i64 x.1, .int .i64 x.2])) :
    St W w' v' (m ++ [x]) B C S B' C' S' lb lc :=
  ⟨h.w.grown hg (fun e => by have := (h.t.lt _ e.symm).1; omega), h.v.grown hg (fun e => by have := (h.t.lt _ e.symm).1; omega), h.l.grown hg (fun e => by have := (h.t.lt _ e.symm).1; omega),
    by rw [List.length_append, prs_append]; exact ho, h.bel.grown hg h.bel.size (fun k hk => by have := (h.t.lt k hk).1; omega)⟩
theorem St.calls {P : Program} {f : FuncId} {args : Array Value} {r : Ending} (h : St W wr s5 m B C S B' C' S' lb lc) (hc : Calls P f args wr fun e w' => e = r ∧ Below wr.heap.size wr w') :
    Calls P f args wr fun e w' => e = r ∧ St W w' s5 m B C S B' C' S' lb lc := hc.mono fun _ _ ⟨he, hb⟩ => ⟨he, h.below hb⟩
theorem St.takeW (h : St W wr s5 m B C S B' C' S' lb lc) (hok : winOk B C S) (b c : Int) :
    Calls Try.prog 15 #[.pointer (some ⟨W.heap.size, 0, none⟩), .agg #[.int .i64 b, .int .i64 c]] wr fun e w' =>
      e = .returned (.int .i64 (lookV B C S b c)) ∧ St W w' s5 m (takeS B C S b c).1 (takeS B C S b c).2.1 (takeS B C S b c).2.2 B' C' S' lb lc :=
  (take_any _ B C S b c wr h.w hok).mono fun _ _ ⟨he, ho, hk⟩ => ⟨he, h.onW ho hk⟩
theorem St.takeV (h : St W wr s5 m B C S B' C' S' lb lc) (hok : winOk B' C' S') (b c : Int) :
    Calls Try.prog 15 #[.pointer (some ⟨W.heap.size + 1, 0, none⟩), .agg #[.int .i64 b, .int .i64 c]] wr fun e w' =>
      e = .returned (.int .i64 (lookV B' C' S' b c)) ∧ St W w' s5 m B C S (takeS B' C' S' b c).1 (takeS B' C' S' b c).2.1 (takeS B' C' S' b c).2.2 lb lc :=
  (take_any _ B' C' S' b c wr h.v hok).mono fun _ _ ⟨he, ho, hk⟩ => ⟨he, h.onV ho hk⟩
theorem St.latestV (h : St W wr s5 m B C S B' C' S' lb lc) :
    Calls Try.prog 19 #[.pointer (some ⟨W.heap.size + 1, 0, none⟩)] wr fun e w' =>
      e = .returned (.agg #[.int .i64 B', .int .i64 C']) ∧ St W w' s5 m B C S B' C' S' lb lc :=
  h.calls (latest_any _ B' C' S' wr h.v)
theorem St.cells (h : St W wr s5 m B C S B' C' S' lb lc) : wr.cell? ⟨W.heap.size + 1 + 1, 0, none⟩ = some (.int .i64 lb) ∧ wr.cell? ⟨W.heap.size + 1 + 1, 1, none⟩ = some (.int .i64 lc) ∧
    wr.frozen? ⟨W.heap.size + 1 + 1, 0, none⟩ = false ∧ wr.frozen? ⟨W.heap.size + 1 + 1, 1, none⟩ = false := by
  have a := h.l.cell 0
  have b := h.l.cell 1
  simp at a b
  exact ⟨a, b, h.l.fr 0, h.l.fr 1⟩
theorem St.old (h : St W wr s5 m B C S B' C' S' lb lc) {b o : Nat} {v : Value} (hb : b < W.heap.size) (hc : W.cell? ⟨b, o, none⟩ = some v) : wr.cell? ⟨b, o, none⟩ = some v := (h.bel.cell (p := ⟨b, o, none⟩) hb).trans hc
end
theorem right12_no (b c : Int) (w : World) (h : okN b c = false) :
    Calls Try.prog 17 #[.agg #[.int .i64 b, .int .i64 c]] w fun e w' => e = .returned (.bool false) ∧ Below w.heap.size w w' := by
  have := right12 b c w
  rw [h] at this
  exact this
/-- A nonce that rises is taken, and is the latest then. -/
theorem rise {B C : Int} {S : Nat} {b c : Int} (hok : okN b c = true) (hl : lessN B C b c = true) : lookV B C S b c = 0 ∧ (takeS B C S b c).1 = b ∧ (takeS B C S b c).2.1 = c := by
  simp [okN] at hok
  simp [lessN] at hl
  have h0 : lookV B C S b c = 0 := by
    unfold lookV
    rw [if_neg (by omega), if_pos (by omega)]
  refine ⟨h0, ?_⟩
  unfold takeS
  rw [if_neg (by simp [h0])]
  by_cases h : B < b
  · rw [if_pos h]; exact ⟨rfl, rfl⟩
  · rw [if_neg h, if_pos (by omega)]
    exact ⟨by omega, rfl⟩

/-- An owned row as a slice whose cells are known. -/
theorem own_form {w : World} {base e size n : Nat} {v : Value} {xs : List Value} (h : w.ownsRow base e size v n xs) :
    ∃ A c, v = .slice A n c ∧ (0 < n → ∃ g, A = some ⟨g, 0, none⟩ ∧ base ≤ g ∧ g < w.heap.size) ∧ n ≤ maxLen ∧ n ≤ c := by
  rcases h.2 with ⟨rfl, rfl⟩ | ⟨g, cap, cur, rfl, hb, hh, hn, hc, _⟩
  · exact ⟨none, 0, rfl, fun h => absurd h (by omega), by simp, Nat.le_refl _⟩
  · exact ⟨_, cap, rfl, fun _ => ⟨g, rfl, hb, Bk.lt hh⟩, by omega, hn⟩

theorem own_cells {w : World} {base e : Nat} {g n c : Nat} {m : List (Int × Int)} (h : w.ownsRow base e 2 (.slice (some ⟨g, 0, none⟩) n c) n (prs m)) {j : Nat} {y : Int × Int} (hj : m[j]? = some y) :
    w.cell? ⟨g, j * 2, none⟩ = some (.int .i64 y.1) ∧ w.cell? ⟨g, j * 2 + 1, none⟩ = some (.int .i64 y.2) := by
  have a := h.cells (g := g) rfl _ _ (prs_get hj).1
  have b := h.cells (g := g) rfl _ _ (prs_get hj).2
  rw [WideShapes.add_plain] at a b
  simp only [Nat.zero_add] at a b
  exact ⟨a, b⟩

/-- What holds at a round's head. -/
def R (W : World) (k : Nat) (s5 : Value) (wr : World) : Prop :=
  ∃ m B C S B' C' S', m.length ≤ k ∧ WinIs B C S m ∧ winOk B' C' S' ∧ St W wr s5 m B C S B' C' S' B' C'
theorem R_mk {W : World} {k : Nat} {s5 : Value} {wr : World} {m : List (Int × Int)} {B C : Int} {S : Nat} {B' C' : Int} {S' : Nat} (h1 : m.length ≤ k) (h2 : WinIs B C S m) (h3 : winOk B' C' S') (h4 : St W wr s5 m B C S B' C' S' B' C') : R W k s5 wr :=
  ⟨m, B, C, S, B', C', S', h1, h2, h3, h4⟩
theorem St.start (W : World) : St W (((W.alloc (Obj.cells #[Value.int IntKind.i64 0, Value.int IntKind.i64 0, Value.int IntKind.u64 0] 27)).alloc (Obj.cells #[Value.int IntKind.i64 0, Value.int IntKind.i64 0, Value.int IntKind.u64 0] 27)).alloc (Obj.cells #[Value.int IntKind.i64 0, Value.int IntKind.i64 0] 28))
    (.slice none 0 0) [] 0 0 0 0 0 0 0 0 := by
  have a := Bk.mk_ W 27 (wcs 0 0 0)
  have b := Bk.mk_ (W.alloc (.cells (wcs 0 0 0) 27)) 27 (wcs 0 0 0)
  have c := Bk.mk_ ((W.alloc (.cells (wcs 0 0 0) 27)).alloc (.cells (wcs 0 0 0) 27)) 28 #[.int .i64 0, .int .i64 0]
  have z : ∀ (w : World) (o : Obj), (w.alloc o).heap.size = w.heap.size + 1 := fun w o => by simp
  rw [z] at b
  rw [z, z] at c
  exact ⟨(a.alloc _).alloc _, b.alloc _, c, World.ownsRow_nil _ _ _ _, (((Below.refl _ _).alloc (Nat.le_refl _) _).alloc (by simp) _).alloc (by simp; omega) _⟩
end Once
open Once

set_option maxRecDepth 100000 in
set_option maxHeartbeats 8000000 in
theorem windowOnce_walk (A : Option Addr) (c : Nat) (ns : List (Int × Int)) (W : World) (hP : Prs W W.heap.size A ns) (hlen : ns.length ≤ maxLen) :
    Calls Try.prog 3 #[.slice A ns.length c] W fun e W' => e = .returned (.bool true) ∧ Below W.heap.size W W' := by
  unfold maxLen at hlen
  have HP := Lib.hid hP
  clear hP
  have hEq := eq_refNonce
  go_enter Try.func3, Try.ntmps3
  go_wp2
  go_loopg [5, 7] (min ns.length 60) (fun g s5 s7 wr => ∃ k : Nat, k + g = min ns.length 60 ∧ s7 = .int .i64 k ∧ R W k s5 wr)
  case atStart => exact ⟨0, by omega, rfl, R_mk (m := []) (by simp) WinIs.zero WinIs.zero.ok (St.start W)⟩
  case round =>
    obtain ⟨k, hk, rfl, hR⟩ := hrel
    obtain ⟨m, B, C, S, B', C', S', hmk, hI, hV, hst⟩ := hR
    by_cases hlt : k < ns.length ∧ k < 60
    · obtain ⟨hlt1, hlt2⟩ := hlt
      obtain ⟨b, o, hA, hbB, hcell⟩ := HP.out.at_ (by omega)
      obtain ⟨x, hx⟩ : ∃ x, ns[k]? = some x := ⟨_, List.getElem?_eq_getElem hlt1⟩
      obtain ⟨h0, h1⟩ := hcell k x hx
      clear hcell
      subst hA
      have e0 := hst.old hbB h0
      have e1 := hst.old hbB h1
      have HI := Lib.hid hI
      have HV := Lib.hid hV
      clear hI hV hx
      go_wp2_with fail
      refine (hst.calls (to12 _ _ _)).mono ?_
      rintro e w1 ⟨rfl, s1⟩
      clear hst
      go_wp2_with fail
      refine (s1.takeW HI.out.ok _ _).mono ?_
      rintro e w2 ⟨rfl, s2⟩
      clear s1 e0 e1
      obtain ⟨A5, c5, hA5, hcell5, hm5, _⟩ := own_form s2.t
      subst hA5
      by_cases hl : lookV B C S x.1 x.2 = 0
      · have hl1 : (lookV B C S x.1 x.2 == 0) = true := by simp [hl]
        have HL := Lib.hid hl
        clear hl
        go_wp2_with fail
        go_loopg [9] m.length (fun g s9 wx => ∃ j : Nat, j + g = m.length ∧ s9 = .int .i64 j ∧ St W wx (.slice A5 m.length c5) m (takeS B C S x.1 x.2).1 (takeS B C S x.1 x.2).2.1 (takeS B C S x.1 x.2).2.2 B' C' S' B' C')
        case atStart => exact ⟨0, by omega, rfl, s2⟩
        case round =>
          obtain ⟨j, hj, rfl, s3⟩ := hrel
          by_cases hjl : j < m.length
          · obtain ⟨y, hy⟩ : ∃ y, m[j]? = some y := ⟨_, List.getElem?_eq_getElem hjl⟩
            obtain ⟨g5, hA, hg5, _⟩ := hcell5 (by omega)
            subst hA
            obtain ⟨d0, d1⟩ := own_cells s3.t hy
            have e0 := s3.old hbB h0
            have e1 := s3.old hbB h1
            have Hy := Lib.hid hy
            clear hy
            have hne : eq2 y.1 y.2 x.1 x.2 = false := by
              cases hq : eq2 y.1 y.2 x.1 x.2
              · rfl
              · simp [eq2] at hq
                exact absurd (by rw [← hq.1, ← hq.2]; exact List.mem_of_getElem? Hy.out) (HI.out.fresh HL.out)
            go_wp2_with fail
            go_quiet (fail)
            go_wp2
            go_roundg (m.length - (j + 1))
            case measure => omega
            case rel => exact ⟨j + 1, by omega, by go_num, s3.drewN _⟩
          · obtain rfl : j = m.length := by omega
            skip
            have e0 := s3.old hbB h0
            have e1 := s3.old hbB h1
            have hmk' := hmk
            have HI2 := Lib.hid (HI.out.take HL.out)
            have hb3 := s3.bel.size
            obtain ⟨i0, hi, hz0, hz1, hz2⟩ := info_parts info_nonce
            go_wp2_with (at_builtin; refine wpList_append_lies _ rfl _ _ 22 rfl (W.heap.size + 3) 28 i0 _ 2 16 Try.underlying22 hi hz0 hz1 hz2 rfl (by omega) _ _ _ rfl (s3.alloc _).t ⟨wr.heap.size, 0, none⟩ 1 1 [.int .i64 x.1, .int .i64 x.2] rfl rfl (World.news_of_block (heap_alloc_new _ _)) ?c2 (by omega) ?c3 ?c4 ?c5 _ rfl ?_)
            case c2 => intro u hu; simp at hu; rcases hu with rfl | rfl <;> rfl
            case c3 => unfold maxLen; omega
            case c4 => omega
            case c5 => have := s3.bel.size; have := (s3.t).1; exact (s3.alloc _).own_le
            intro g6 cap6 w4 hown4 hgrow4 _ _
            have s4 := (s3.alloc _).app hgrow4 hown4
            clear hown4 hgrow4 s3 hi hz0 hz1 hz2 e0 e1
            obtain ⟨l0, l1, f0, f1⟩ := s4.cells
            have q0 := s4.old hbB h0
            have q1 := s4.old hbB h1
            by_cases hr : okN x.1 x.2 = true
            · by_cases hle : lessN B' C' x.1 x.2 = true
              · obtain ⟨hz, hza, hzb⟩ := rise (S := S') hr hle
                have hz1 : (lookV B' C' S' x.1 x.2 != 0) = false := by simp [hz]
                have HZ := Lib.hid (And.intro hza hzb)
                clear hza hzb hz
                go_wp2_with fail
                first | go_region_with (first | (go_at_call 17; refine (St.calls (by first | assumption | (apply St.drew; assumption) | (apply St.drewN; assumption) | (apply St.alloc; assumption)) (right12 _ _ _)).mono ?_; rintro e w9 ⟨rfl, hs⟩; have q0 := hs.old hbB h0; have q1 := hs.old hbB h1; obtain ⟨l0, l1, f0, f1⟩ := hs.cells) | (go_at_call 18; refine (St.calls (by first | assumption | (apply St.drew; assumption) | (apply St.drewN; assumption) | (apply St.alloc; assumption)) (less12 _ _ _ _ _)).mono ?_; rintro e w9 ⟨rfl, hs⟩; have q0 := hs.old hbB h0; have q1 := hs.old hbB h1; obtain ⟨l0, l1, f0, f1⟩ := hs.cells)) | fail
                all_goals
                  have s6 := hs.setL x.1 x.2
                  have hq : eq2 (takeS B' C' S' x.1 x.2).1 (takeS B' C' S' x.1 x.2).2.1 x.1 x.2 = true := by unfold eq2; rw [HZ.out.1, HZ.out.2]; simp
                  have hNe := ne_winNonce
                  go_wp2_with fail
                  generalize ((w9.setCell ⟨W.heap.size + 1 + 1, 0, none⟩ (.int .i64 x.1)).setCell ⟨W.heap.size + 1 + 1, 1, none⟩ (.int .i64 x.2)) = w10 at s6 ⊢
                  clear hs q0 q1 l0 l1 f0 f1
                  have q0 := s6.old hbB h0
                  have q1 := s6.old hbB h1
                  first | go_region_with (first | (go_at_call 16; refine (St.calls (by first | assumption | (apply St.drew; assumption) | (apply St.drewN; assumption) | (apply St.alloc; assumption)) (to12 _ _ _)).mono ?_; rintro e w9 ⟨rfl, hs⟩; have q0 := hs.old hbB h0; have q1 := hs.old hbB h1) | (go_at_call 15; refine (St.takeV (by first | assumption | (apply St.drew; assumption) | (apply St.drewN; assumption) | (apply St.alloc; assumption)) HV.out _ _).mono ?_; rintro e w9 ⟨rfl, hs⟩; have q0 := hs.old hbB h0; have q1 := hs.old hbB h1) | (go_at_call 19; refine (St.latestV (by first | assumption | (apply St.drew; assumption) | (apply St.drewN; assumption) | (apply St.alloc; assumption))).mono ?_; rintro e w9 ⟨rfl, hs⟩; have q0 := hs.old hbB h0; have q1 := hs.old hbB h1)) | fail
                  all_goals
                    go_wp2_with fail
                    go_roundg (min ns.length 60 - (k + 1))
                    case measure => omega
                    case rel => exact ⟨k + 1, by omega, by go_num, R_mk (by first | omega | (simp; omega)) HI2.out (takeS_ok HV.out) (hs.last HZ.out.1 HZ.out.2)⟩
              · have hle' : lessN B' C' x.1 x.2 = false := by simpa using hle
                clear hle
                go_wp2_with fail
                first | go_region_with (first | (go_at_call 17; refine (St.calls (by first | assumption | (apply St.drew; assumption) | (apply St.drewN; assumption) | (apply St.alloc; assumption)) (right12 _ _ _)).mono ?_; rintro e w9 ⟨rfl, hs⟩; have q0 := hs.old hbB h0; have q1 := hs.old hbB h1; obtain ⟨l0, l1, f0, f1⟩ := hs.cells) | (go_at_call 18; refine (St.calls (by first | assumption | (apply St.drew; assumption) | (apply St.drewN; assumption) | (apply St.alloc; assumption)) (less12 _ _ _ _ _)).mono ?_; rintro e w9 ⟨rfl, hs⟩; have q0 := hs.old hbB h0; have q1 := hs.old hbB h1; obtain ⟨l0, l1, f0, f1⟩ := hs.cells)) | fail
                all_goals
                  go_wp2_with fail
                  go_roundg (min ns.length 60 - (k + 1))
                  case measure => omega
                  case rel => exact ⟨k + 1, by omega, by go_num, R_mk (by first | omega | (simp; omega)) HI2.out HV.out hs⟩
            · have hr' : okN x.1 x.2 = false := by simpa using hr
              clear hr
              go_wp2_with fail
              first | go_region_with (first | (go_at_call 17; refine (St.calls (by first | assumption | (apply St.drew; assumption) | (apply St.drewN; assumption) | (apply St.alloc; assumption)) (right12_no _ _ _ hr')).mono ?_; rintro e w9 ⟨rfl, hs⟩; have q0 := hs.old hbB h0; have q1 := hs.old hbB h1; obtain ⟨l0, l1, f0, f1⟩ := hs.cells) | (go_at_call 18; refine (St.calls (by first | assumption | (apply St.drew; assumption) | (apply St.drewN; assumption) | (apply St.alloc; assumption)) (less12 _ _ _ _ _)).mono ?_; rintro e w9 ⟨rfl, hs⟩; have q0 := hs.old hbB h0; have q1 := hs.old hbB h1; obtain ⟨l0, l1, f0, f1⟩ := hs.cells)) | fail
              all_goals
                go_wp2_with fail
                go_roundg (min ns.length 60 - (k + 1))
                case measure => omega
                case rel => exact ⟨k + 1, by omega, by go_num, R_mk (by first | omega | (simp; omega)) HI2.out HV.out hs⟩
      · have hl1 : (lookV B C S x.1 x.2 == 0) = false := by simpa using hl
        have HL := Lib.hid hl
        clear hl
        go_wp2_with fail
        go_loopg [9] m.length (fun g s9 wx => ∃ j : Nat, j + g = m.length ∧ s9 = .int .i64 j ∧ St W wx (.slice A5 m.length c5) m (takeS B C S x.1 x.2).1 (takeS B C S x.1 x.2).2.1 (takeS B C S x.1 x.2).2.2 B' C' S' B' C')
        case atStart => exact ⟨0, by omega, rfl, s2⟩
        case round =>
          obtain ⟨j, hj, rfl, s3⟩ := hrel
          by_cases hjl : j < m.length
          · go_wp2_with fail
            go_quiet (fail)
            go_wp2
            go_roundg (m.length - (j + 1))
            case measure => omega
            case rel => exact ⟨j + 1, by omega, by go_num, s3.drewN _⟩
          · obtain rfl : j = m.length := by omega
            have HI2 := Lib.hid (HI.out.not_taken HL.out)
            have s4 := s3
            clear s3
            obtain ⟨l0, l1, f0, f1⟩ := s4.cells
            have q0 := s4.old hbB h0
            have q1 := s4.old hbB h1
            by_cases hr : okN x.1 x.2 = true
            · by_cases hle : lessN B' C' x.1 x.2 = true
              · obtain ⟨hz, hza, hzb⟩ := rise (S := S') hr hle
                have hz1 : (lookV B' C' S' x.1 x.2 != 0) = false := by simp [hz]
                have HZ := Lib.hid (And.intro hza hzb)
                clear hza hzb hz
                go_wp2_with fail
                first | go_region_with (first | (go_at_call 17; refine (St.calls (by first | assumption | (apply St.drew; assumption) | (apply St.drewN; assumption) | (apply St.alloc; assumption)) (right12 _ _ _)).mono ?_; rintro e w9 ⟨rfl, hs⟩; have q0 := hs.old hbB h0; have q1 := hs.old hbB h1; obtain ⟨l0, l1, f0, f1⟩ := hs.cells) | (go_at_call 18; refine (St.calls (by first | assumption | (apply St.drew; assumption) | (apply St.drewN; assumption) | (apply St.alloc; assumption)) (less12 _ _ _ _ _)).mono ?_; rintro e w9 ⟨rfl, hs⟩; have q0 := hs.old hbB h0; have q1 := hs.old hbB h1; obtain ⟨l0, l1, f0, f1⟩ := hs.cells)) | fail
                all_goals
                  have s6 := hs.setL x.1 x.2
                  have hq : eq2 (takeS B' C' S' x.1 x.2).1 (takeS B' C' S' x.1 x.2).2.1 x.1 x.2 = true := by unfold eq2; rw [HZ.out.1, HZ.out.2]; simp
                  have hNe := ne_winNonce
                  go_wp2_with fail
                  generalize ((w9.setCell ⟨W.heap.size + 1 + 1, 0, none⟩ (.int .i64 x.1)).setCell ⟨W.heap.size + 1 + 1, 1, none⟩ (.int .i64 x.2)) = w10 at s6 ⊢
                  clear hs q0 q1 l0 l1 f0 f1
                  have q0 := s6.old hbB h0
                  have q1 := s6.old hbB h1
                  first | go_region_with (first | (go_at_call 16; refine (St.calls (by first | assumption | (apply St.drew; assumption) | (apply St.drewN; assumption) | (apply St.alloc; assumption)) (to12 _ _ _)).mono ?_; rintro e w9 ⟨rfl, hs⟩; have q0 := hs.old hbB h0; have q1 := hs.old hbB h1) | (go_at_call 15; refine (St.takeV (by first | assumption | (apply St.drew; assumption) | (apply St.drewN; assumption) | (apply St.alloc; assumption)) HV.out _ _).mono ?_; rintro e w9 ⟨rfl, hs⟩; have q0 := hs.old hbB h0; have q1 := hs.old hbB h1) | (go_at_call 19; refine (St.latestV (by first | assumption | (apply St.drew; assumption) | (apply St.drewN; assumption) | (apply St.alloc; assumption))).mono ?_; rintro e w9 ⟨rfl, hs⟩; have q0 := hs.old hbB h0; have q1 := hs.old hbB h1)) | fail
                  all_goals
                    go_wp2_with fail
                    go_roundg (min ns.length 60 - (k + 1))
                    case measure => omega
                    case rel => exact ⟨k + 1, by omega, by go_num, R_mk (by first | omega | (simp; omega)) HI2.out (takeS_ok HV.out) (hs.last HZ.out.1 HZ.out.2)⟩
              · have hle' : lessN B' C' x.1 x.2 = false := by simpa using hle
                clear hle
                go_wp2_with fail
                first | go_region_with (first | (go_at_call 17; refine (St.calls (by first | assumption | (apply St.drew; assumption) | (apply St.drewN; assumption) | (apply St.alloc; assumption)) (right12 _ _ _)).mono ?_; rintro e w9 ⟨rfl, hs⟩; have q0 := hs.old hbB h0; have q1 := hs.old hbB h1; obtain ⟨l0, l1, f0, f1⟩ := hs.cells) | (go_at_call 18; refine (St.calls (by first | assumption | (apply St.drew; assumption) | (apply St.drewN; assumption) | (apply St.alloc; assumption)) (less12 _ _ _ _ _)).mono ?_; rintro e w9 ⟨rfl, hs⟩; have q0 := hs.old hbB h0; have q1 := hs.old hbB h1; obtain ⟨l0, l1, f0, f1⟩ := hs.cells)) | fail
                all_goals
                  go_wp2_with fail
                  go_roundg (min ns.length 60 - (k + 1))
                  case measure => omega
                  case rel => exact ⟨k + 1, by omega, by go_num, R_mk (by first | omega | (simp; omega)) HI2.out HV.out hs⟩
            · have hr' : okN x.1 x.2 = false := by simpa using hr
              clear hr
              go_wp2_with fail
              first | go_region_with (first | (go_at_call 17; refine (St.calls (by first | assumption | (apply St.drew; assumption) | (apply St.drewN; assumption) | (apply St.alloc; assumption)) (right12_no _ _ _ hr')).mono ?_; rintro e w9 ⟨rfl, hs⟩; have q0 := hs.old hbB h0; have q1 := hs.old hbB h1; obtain ⟨l0, l1, f0, f1⟩ := hs.cells) | (go_at_call 18; refine (St.calls (by first | assumption | (apply St.drew; assumption) | (apply St.drewN; assumption) | (apply St.alloc; assumption)) (less12 _ _ _ _ _)).mono ?_; rintro e w9 ⟨rfl, hs⟩; have q0 := hs.old hbB h0; have q1 := hs.old hbB h1; obtain ⟨l0, l1, f0, f1⟩ := hs.cells)) | fail
              all_goals
                go_wp2_with fail
                go_roundg (min ns.length 60 - (k + 1))
                case measure => omega
                case rel => exact ⟨k + 1, by omega, by go_num, R_mk (by first | omega | (simp; omega)) HI2.out HV.out hs⟩
    · have HB := Lib.hid hst.bel
      clear hst
      go_wp2_with (go_at_call 20; refine (known12 _).mono ?_; rintro e w1 ⟨rfl, hb⟩)
      all_goals
        go_ret
        exact ⟨rfl, HB.out.trans (hb.mono HB.out.size)⟩

theorem contract_windowOnce (W : World) (v0 : Value) (a0 : ∃ A n c zs, v0 = .slice A n c ∧ n ≤ c ∧ c ≤ maxLen ∧ Flat 2 W A n zs) :
    Calls Try.prog 3 #[v0] W fun e W' => e = .returned (.bool true) ∧ Below W.heap.size W W' := by
  obtain ⟨A, n, c, zs, rfl, hn, hc, hf⟩ := a0
  obtain ⟨ns, rfl, hP, _⟩ := hf.prs
  exact windowOnce_walk A c ns W hP (by omega)
end Go.Proofs.Ytidphalfafaniaa
