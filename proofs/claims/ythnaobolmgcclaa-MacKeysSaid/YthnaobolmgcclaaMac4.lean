/- A block with marks beside the memory of a call; the contract of package mac's framed. -/
import Derived.Test.YthnaobolmgcclaaMac3
import Derived.Test.YthnaobolmgcclaaFew1
import Derived.Laws.IdiomStrings
namespace Go.Proofs.Ythnaobolmgcclaa
set_option linter.unusedVariables false
set_option linter.unusedSimpArgs false
open Go.RowKit

/-- A block of the call's own, with whatever marks, that nothing writes. -/
structure Mz (W wr : World) (bl : Bl) (ow : List Ro) (gM : Nat) (ob : Obj) : Prop where
  m : Mst W wr bl ow
  z : wr.heap[gM]? = some ob
  lo : W.heap.size ≤ gM
  nb : ∀ x ∈ bl, x.1 ≠ gM
  nr : ∀ y ∈ ow, y.v.ownBlock ≠ some gM
section
variable {W wr w' : World} {bl : Bl} {ow : List Ro} {gM : Nat} {ob : Obj}
theorem Mz.lt (h : Mz W wr bl ow gM ob) : gM < wr.heap.size := by
  rcases Nat.lt_or_ge gM wr.heap.size with h1 | h1
  · exact h1
  · have := h.z
    rw [Array.getElem?_eq_none h1] at this
    cases this
theorem Mz.newrow (h : Mz W wr bl ow gM ob) (e : TypeId) (size n cap : Nat) (cs : Array Value) (hn : n ≤ cap) (hm : cap ≤ maxLen) (hs : cs.size = cap * size) :
    Mz W (wr.alloc (.cells cs e)) bl (⟨e, size, .slice (some ⟨wr.heap.size, 0, none⟩) n cap, n, cs.toList.take (n * size)⟩ :: ow) gM ob := by
  refine ⟨h.m.newrow e size n cap cs hn hm hs, (Below.heap_alloc wr _ gM h.lt).trans h.z, h.lo, h.nb, fun y hy => ?_⟩
  rcases List.mem_cons.1 hy with rfl | hy
  · have := h.lt
    intro e
    have e' : wr.heap.size = gM := by injection e
    omega
  · exact h.nr y hy
theorem Mz.put (pre : Bl) {post : Bl} {g : Nat} {t : TypeId} {cs : Array Value} (h : Mz W wr (pre ++ (g, t, cs) :: post) ow gM ob) (i : Nat) (u : Value) :
    Mz W (wr.setCell ⟨g, i, none⟩ u) (pre ++ (g, t, cs.setIfInBounds i u) :: post) ow gM ob := by
  refine ⟨h.m.put pre i u, ?_, h.lo, fun x hx => ?_, h.nr⟩
  · refine (Below.heap_setCell wr ⟨g, i, none⟩ u gM ?_).trans h.z
    exact fun e => h.nb (g, t, cs) (by simp) e.symm
  · rcases List.mem_append.1 hx with hx | hx
    · exact h.nb x (List.mem_append_left _ hx)
    · rcases List.mem_cons.1 hx with rfl | hx
      · exact h.nb (g, t, cs) (by simp)
      · exact h.nb x (by simp [hx])
theorem Mz.perm {bl' : Bl} {ow' : List Ro} (h : Mz W wr bl ow gM ob) (h1 : bl.Perm bl') (h2 : ow.Perm ow') : Mz W wr bl' ow' gM ob :=
  ⟨h.m.perm h1 h2, h.z, h.lo, fun x hx => h.nb x (h1.mem_iff.2 hx), fun y hy => h.nr y (h2.mem_iff.2 hy)⟩
/-- Such a block, just made. -/
theorem Mst.mark (h : Mst W wr bl ow) (ob : Obj) : Mz W (wr.drew.alloc ob) bl ow wr.heap.size ob := by
  refine ⟨h.drew.alloc ob, heap_alloc_new wr.drew ob, h.bel.size, fun x hx => ?_, fun y hy e => ?_⟩
  · have := (h.bk x hx).1.lt
    omega
  · have := ((h.own y hy).lt _ e).2
    omega
theorem wpList_appZ {P : Program} {ops : Array Oper} {rest : List Oper} {o : Oper} {a : Act} {Q : Exit → Act → World → Prop} (hgd : o.guard = none) (s x : Operand) (t : TypeId)
    (ho : o.op = .call { callee := .builtin .append, args := #[s, x], argTypes := #[t, t] })
    (pre : List Ro) {post : List Ro} {e : TypeId} {size n bytes : Nat} {v : Value} {xs : List Value} (hm : Mz W wr bl (pre ++ ⟨e, size, v, n, xs⟩ :: post) gM ob) (hE : El P t e size bytes) (hs : a.eval s = v)
    (B : Nat) (A : Option Addr) (m c : Nat) (news : List Value) (hx : a.eval x = .slice A m c) (hr : Rd wr B size A m news) (h1 : ∀ u ∈ news, u.oneCell' = true)
    (h63 : n + m ≤ maxLen) (hbytes : (n + m) * bytes ≤ 140737488355328)
    (h : ∀ A' c' w', Mz W w' bl (pre ++ ⟨e, size, .slice A' (n + m) c', n + m, xs ++ news⟩ :: post) gM ob → wpList P ops Q rest (a.put o.dst (.slice A' (n + m) c')) w') : wpList P ops Q (o :: rest) a wr := by
  obtain ⟨ht, ⟨i, z, hi, hz, hsize, hby, hzs⟩, hp⟩ := hE
  refine wpList_app wr hgd s x t ho W.heap.size e i z size bytes ht hi hz hsize hby hzs hp v n xs hs (hm.m.row pre) B A m c news hx hr h1 h63 hbytes hm.m.bel.size fun A' c' w' h2 h3 h4 => h A' c' w' ⟨hm.m.app pre h3 h2 h4, ?_, hm.lo, hm.nb, ?_⟩
  · exact (h3.block gM hm.lt (fun e2 => hm.nr ⟨e, size, v, n, xs⟩ (by simp) e2.symm)).trans hm.z
  · intro y hy
    rcases List.mem_append.1 hy with hy | hy
    · exact hm.nr y (List.mem_append_left _ hy)
    · rcases List.mem_cons.1 hy with rfl | hy
      · rcases h4 with h5 | h5
        · rw [h5]
          exact hm.nr ⟨e, size, v, n, xs⟩ (by simp)
        · rw [h5]
          have := hm.lt
          intro e2
          injection e2
          omega
      · exact hm.nr y (by simp [hy])
end
/-- A source in older memory, a row of the call's own, or the marked block. -/
def SZ (W : World) (rows : List Ro) (gM : Nat) (ob : Obj) (A : Option Addr) (l : List UInt8) : Prop :=
  Src W [] rows 1 A l.length (by8 l) ∨ (A = some ⟨gM, 0, none⟩ ∧ ∃ (cs : Array Value) (e : TypeId) (z : Nat × Nat), ob = .cells cs e z ∧ ∀ (j : Nat) (u : Value), (by8 l)[j]? = some u → cs[j]? = some u)
theorem SZ.sub {W : World} {rows rows' : List Ro} {gM : Nat} {ob : Obj} {A : Option Addr} {l : List UInt8} (h : SZ W rows gM ob A l) (hs : ∀ y ∈ rows, y ∈ rows') : SZ W rows' gM ob A l :=
  h.imp (fun h => h.sub (fun _ h => h) hs) id
theorem Mz.rd {W wr : World} {bl : Bl} {ow rows : List Ro} {gM : Nat} {ob : Obj} {A : Option Addr} {l : List UInt8} (h : Mz W wr bl ow gM ob) (hs : SZ W rows gM ob A l) (hr : ∀ y ∈ rows, y ∈ ow) : RB wr wr.heap.size A l := by
  rcases hs with hs | ⟨rfl, cs, e, z, rfl, hc⟩
  · exact h.m.src (hs.sub (fun _ h => nomatch h) hr)
  · refine ⟨by rw [by8_length]; omega, fun _ => ⟨gM, 0, rfl, h.lt, fun j u hu => ?_⟩⟩
    refine (cell_of_row _ gM (0 + j) _ _ z h.z).trans ?_
    rw [Nat.zero_add]
    exact hc j u hu

/-- Four bytes for a length. -/
def len4 (n : Nat) : List UInt8 := [UInt8.ofNat (n >>> 24), UInt8.ofNat (n >>> 16), UInt8.ofNat (n >>> 8), UInt8.ofNat n]
/-- What is laid so far: a row of slices, in a variable. -/
structure FrX (W w : World) (gc gM : Nat) (ob : Obj) (ls : List (List UInt8)) (rows : List Ro) : Prop where
  ex : ∃ (v : Value) (qs : List Pt), qs.map Pt.l = ls ∧ Mz W w [(gc, 51, #[v])] (⟨26, 1, v, qs.length, qs.map Pt.v⟩ :: rows) gM ob ∧ ∀ q ∈ qs, SZ W rows gM ob q.A q.l
theorem W_of (n : Nat) (h : n < 4294967296) (w : World) : (convert 3 56 (.int .i64 (n : Int))).run Try.prog w = .ok (W (BitVec.ofNat 32 n)) w := by
  have e : (convert 3 56 (.int .i64 (n : Int))).run Try.prog w = .ok (.int .u32 (IntKind.u32.wrap (n : Int))) w := by go_simp
  rw [e, wrap_u32]
  unfold W
  congr 2

set_option maxRecDepth 100000 in
set_option maxHeartbeats 1000000 in
theorem framed1_any (W0 w : World) (gc gM : Nat) (ob : Obj) (ls : List (List UInt8)) (rows : List Ro) (hx : FrX W0 w gc gM ob ls rows) (A : Option Addr) (c : Nat) (l : List UInt8) (hl : SZ W0 rows gM ob A l) (hn : l.length ≤ 1000000) (hls : ls.length ≤ 10000) :
    Calls Try.prog 101 #[.slice A l.length c, .pointer (some ⟨gc, 0, none⟩)] w fun e w' => e = .returned (.tuple #[]) ∧ ∃ rows', FrX W0 w' gc gM ob (ls ++ [len4 l.length, l]) rows' ∧ ∀ y ∈ rows, y ∈ rows' := by
  obtain ⟨v, qs, e1, hm, hq⟩ := hx.ex
  have hql : qs.length ≤ 10000 := by rw [← e1, List.length_map] at hls; exact hls
  obtain ⟨n, hN⟩ : ∃ n, l.length = n := ⟨_, rfl⟩
  rw [hN] at hn ⊢
  obtain ⟨A0, c0, rfl, _⟩ := own_form (hm.m.row [])
  have kc := hm.m.blk []
  have q0 : w.cell? ⟨gc, 0, none⟩ = some (.slice A0 qs.length c0) := kc.cell 0
  have hcv := fun w => W_of n (by omega) w
  obtain ⟨x, hx⟩ : ∃ x : Wd, BitVec.ofNat 32 n = x := ⟨_, rfl⟩
  have hxn : x.toNat = n := by rw [← hx]; simp; omega
  rw [hx] at hcv
  have s24 : ∀ (w : World), (binOp .shr 56 (W x) (.int .u64 24)).run Try.prog w = .ok (W (x >>> 24)) w := fun w => W_shr 56 x w .u64 24 (by decide)
  have s16 : ∀ (w : World), (binOp .shr 56 (W x) (.int .u64 16)).run Try.prog w = .ok (W (x >>> 16)) w := fun w => W_shr 56 x w .u64 16 (by decide)
  have s8 : ∀ (w : World), (binOp .shr 56 (W x) (.int .u64 8)).run Try.prog w = .ok (W (x >>> 8)) w := fun w => W_shr 56 x w .u64 8 (by decide)
  have c24 := fun w => W_byteS x 24 w
  have c16 := fun w => W_byteS x 16 w
  have c8 := fun w => W_byteS x 8 w
  have cc := fun w => W_byte x w
  rw [hxn] at c24 c16 c8 cc
  obtain ⟨b3, hb3⟩ : ∃ b, UInt8.ofNat (n >>> 24) = b := ⟨_, rfl⟩
  obtain ⟨b2, hb2⟩ : ∃ b, UInt8.ofNat (n >>> 16) = b := ⟨_, rfl⟩
  obtain ⟨b1, hb1⟩ : ∃ b, UInt8.ofNat (n >>> 8) = b := ⟨_, rfl⟩
  obtain ⟨b0, hb0⟩ : ∃ b, UInt8.ofNat n = b := ⟨_, rfl⟩
  rw [hb3] at c24
  rw [hb2] at c16
  rw [hb1] at c8
  rw [hb0] at cc
  have HB := Lib.hid (show len4 n = [b3, b2, b1, b0] by rw [len4, hb3, hb2, hb1, hb0])
  have m1 := hm.newrow 5 1 4 4 #[.int .u8 (b3.toNat : Int), .int .u8 (b2.toNat : Int), .int .u8 (b1.toNat : Int), .int .u8 (b0.toNat : Int)] (Nat.le_refl _) (by decide) rfl
  have m2 := m1.newrow 26 1 2 2 #[.slice (some ⟨w.heap.size, 0, none⟩) 4 4, .slice A n c] (Nat.le_refl _) (by decide) rfl
  rw [show (w.alloc (.cells #[.int .u8 (b3.toNat : Int), .int .u8 (b2.toNat : Int), .int .u8 (b1.toNat : Int), .int .u8 (b0.toNat : Int)] 5)).heap.size = w.heap.size + 1 by simp] at m2
  have M2 := Lib.hid m2
  have HA := Lib.hid (m2.m.src (m2.m.rowSrc (List.mem_cons_self ..)))
  have HN := Lib.hid hN
  have HQ := Lib.hid hq
  have HL := Lib.hid hl
  have HE := Lib.hid e1
  clear hm kc hx hxn hb3 hb2 hb1 hb0 m1 m2 hN hq hl e1
  go_enter Try.func101, Try.ntmps101
  go_wp2_with (at_builtin; refine wpList_appZ rfl _ _ 51 rfl [_, _] M2.out el_bs rfl _ _ 2 2 _ rfl HA.out (by simp [Value.oneCell']) (by unfold maxLen; omega) (by omega) ?_; intro A' c' w' m3; have M3 := Lib.hid m3; have c3 := (m3.m.blk []).cell 0; have f3 := (m3.m.blk []).fr 0; clear m3)
  go_end0
  have m4 := (M3.out.put [] 0 (.slice A' (qs.length + 2) c')).perm (List.Perm.refl _) List.perm_middle
  refine ⟨rfl, [⟨26, 1, .slice (some ⟨w.heap.size + 1, 0, none⟩) 2 2, 2, [.slice (some ⟨w.heap.size, 0, none⟩) 4 4, .slice A n c]⟩, ⟨5, 1, .slice (some ⟨w.heap.size, 0, none⟩) 4 4, 4, [.int .u8 (b3.toNat : Int), .int .u8 (b2.toNat : Int), .int .u8 (b1.toNat : Int), .int .u8 (b0.toNat : Int)]⟩] ++ rows, ⟨⟨.slice A' (qs.length + 2) c', qs ++ [⟨some ⟨w.heap.size, 0, none⟩, 4, [b3, b2, b1, b0]⟩, ⟨A, c, l⟩], by rw [List.map_append, HE.out, HB.out]; rfl, ?_, ?_⟩⟩, fun y hy => List.mem_append_right _ hy⟩
  · exact Eq.mp (by simp [Pt.v, HN.out]) m4
  · intro q hq
    rcases List.mem_append.1 hq with hq | hq
    · exact (HQ.out q hq).sub fun y hy => List.mem_append_right _ hy
    · have hq2 : q = ⟨some ⟨w.heap.size, 0, none⟩, 4, [b3, b2, b1, b0]⟩ ∨ q = ⟨A, c, l⟩ := by simpa using hq
      rcases hq2 with rfl | rfl
      · exact .inl ⟨by simp [by8], fun _ => ⟨w.heap.size, 0, rfl, .inr (.inr ⟨⟨5, 1, .slice (some ⟨w.heap.size, 0, none⟩) 4 4, 4, [.int .u8 (b3.toNat : Int), .int .u8 (b2.toNat : Int), .int .u8 (b1.toNat : Int), .int .u8 (b0.toNat : Int)]⟩, by simp, rfl, fun j u hu => by simpa [by8] using hu⟩)⟩⟩
      · exact HL.out.sub fun y hy => List.mem_append_right _ hy

/-- Each with its length ahead. -/
def framesL (ls : List (List UInt8)) : List (List UInt8) := ls.flatMap fun l => [len4 l.length, l]
theorem framesL_snoc (ls : List (List UInt8)) (l : List UInt8) : framesL (ls ++ [l]) = framesL ls ++ [len4 l.length, l] := by simp [framesL]
theorem framesL_len (ls : List (List UInt8)) : (framesL ls).length = 2 * ls.length := by
  induction ls with
  | nil => rfl
  | cons l ls ih => simp only [framesL, List.flatMap_cons, List.length_append, List.length_cons, List.length_nil] at ih ⊢; omega
theorem FrX.bel {W w : World} {gc gM : Nat} {ob : Obj} {ls : List (List UInt8)} {rows : List Ro} (h : FrX W w gc gM ob ls rows) : Below W.heap.size W w := by
  obtain ⟨v, qs, _, hm, _⟩ := h.ex
  exact hm.m.bel
theorem FrX.out {W w : World} {gc gM : Nat} {ob : Obj} {ls : List (List UInt8)} {rows : List Ro} (h : FrX W w gc gM ob ls rows) : ∃ A c qs, w.cell? ⟨gc, 0, none⟩ = some (.slice A qs.length c) ∧ qs.map Pt.l = ls ∧ Pts w A qs := by
  obtain ⟨v, qs, e, hm, hq⟩ := h.ex
  obtain ⟨A, c, rfl, _⟩ := own_form (hm.m.row [])
  exact ⟨A, c, qs, (hm.m.blk []).cell 0, e, own_rd (hm.m.row []), fun q h => hm.rd (hq q h) fun y hy => List.mem_cons_of_mem _ hy⟩

set_option maxRecDepth 100000 in
set_option maxHeartbeats 1000000 in
theorem framed_any (w : World) (s : ByteArray) (A : Option Addr) (c : Nat) (ps : List Pt) (hp : Pts w A ps) (hs : s.size ≤ 100000) (hn : ps.length ≤ 1000) (hl : ∀ p ∈ ps, p.l.length ≤ 1000000) :
    Calls Try.prog 91 #[.string s, .slice A ps.length c] w fun e w' => ∃ A' c' qs, e = .returned (.slice A' (qs.length) c') ∧ Pts w' A' qs ∧ qs.map Pt.l = framesL (s.data.toList :: ps.map Pt.l) ∧ Below w.heap.size w w' := by
  obtain ⟨n, hN⟩ : ∃ n, ps.length = n := ⟨_, rfl⟩
  rw [hN] at hn ⊢
  have HN := Lib.hid hN
  have HP := Lib.hid hp
  have HL := Lib.hid hl
  have hcv := run_bytes_of_string (P := Try.prog) (w.alloc (.cells #[.slice none 0 0] 51)) 9 26 5 s Try.underlying9 Try.underlying26 Try.underlying5
  rw [show (w.alloc (.cells #[.slice none 0 0] 51)).heap.size = w.heap.size + 1 by simp] at hcv
  generalize grownCap _ _ _ _ = C at hcv
  obtain ⟨R, hR⟩ : ∃ R, bytesRow s C = R := ⟨_, rfl⟩
  have hrow : ∀ (j : Nat) (u : Value), (by8 s.data.toList)[j]? = some u → R[j]? = some u := by
    intro j u hu
    have hj : j < s.data.size := by
      have := (List.getElem?_eq_some_iff.1 hu).1
      rw [by8_length, Array.length_toList] at this
      exact this
    rw [← hR, bytesRow_at s C j hj, ← hu, by8_get (b := s.data[j]) (by simp [hj])]
  rw [hR] at hcv
  obtain ⟨ob, hob⟩ : ∃ ob, Obj.cells R 5 (R.size, R.size + 1) = ob := ⟨_, rfl⟩
  have m1 := (((Mst.start w).new 51 #[.slice none 0 0]).nilrow 26 1).mark ob
  rw [show (w.alloc (.cells #[.slice none 0 0] 51)).heap.size = w.heap.size + 1 by simp] at m1
  rw [hob] at hcv
  have F1 := Lib.hid (show FrX w ((w.alloc (.cells #[.slice none 0 0] 51)).alloc ob).drew w.heap.size (w.heap.size + 1) ob [] [] from ⟨⟨.slice none 0 0, [], rfl, m1, by simp⟩⟩)
  have hsl : s.data.toList.length = s.size := by simp
  have S1 := Lib.hid (show SZ w [] (w.heap.size + 1) ob (some ⟨w.heap.size + 1, 0, none⟩) s.data.toList from .inr ⟨rfl, R, _, _, hob.symm, hrow⟩)
  obtain ⟨nm, hnm⟩ : ∃ l, s.data.toList = l := ⟨_, rfl⟩
  rw [hnm] at S1 hsl ⊢
  obtain ⟨sz, hsz⟩ : ∃ n, s.size = n := ⟨_, rfl⟩
  rw [hsz] at hs hcv hsl
  have HSL := Lib.hid hsl
  have hmf : ∀ (fn : Fn) (first cap : Array Value) (w : World), (Instr.makeFunc fn first cap).run Try.prog w = .ok (.func fn first cap) w := fun _ _ _ _ => rfl
  clear hp hN hl hrow hR hob m1 hsl hnm hsz
  go_enter Try.func91, Try.ntmps91
  have H1 := Lib.hid (show Calls Try.prog 101 #[.slice (some ⟨w.heap.size + 1, 0, none⟩) sz C, .pointer (some ⟨w.heap.size, 0, none⟩)] ((w.alloc (.cells #[.slice none 0 0] 51)).alloc ob).drew fun e w' => e = .returned (.tuple #[]) ∧ ∃ rows', FrX w w' w.heap.size (w.heap.size + 1) ob (framesL [nm]) rows' from by
    have := framed1_any _ _ _ _ _ _ _ F1.out _ C _ S1.out (by rw [HSL.out]; omega) (by simp)
    rw [HSL.out] at this
    refine this.mono ?_
    rintro e w' ⟨h1, r, h2, _⟩
    exact ⟨h1, r, by simpa [framesL, HSL.out] using h2⟩)
  go_wp2_with fail
  refine H1.out.mono ?_
  rintro e w2 ⟨rfl, r2, f2⟩
  have F2 := Lib.hid f2
  clear f2
  go_wp2_with fail
  go_loopg [16] n (fun gk s16 wr => ∃ (k : Nat) (rows : List Ro), k + gk = n ∧ s16 = .int .i64 k ∧ FrX w wr w.heap.size (w.heap.size + 1) ob (framesL (nm :: (ps.take k).map Pt.l)) rows)
  case atStart => exact ⟨0, r2, by omega, rfl, F2.out⟩
  case round =>
    obtain ⟨k, rows, hk, rfl, hf⟩ := hrel
    have HF := Lib.hid hf
    have hb := hf.bel
    clear hf
    by_cases hlt : k < n
    · obtain ⟨p, hpk⟩ : ∃ p, ps[k]? = some p := ⟨_, List.getElem?_eq_getElem (by have := HN.out; omega)⟩
      obtain ⟨b, o, rfl, hbw, hcell⟩ := HP.out.at_ (by have := HN.out; omega)
      have c0 := (hb.cell (p := ⟨b, o + k, none⟩) hbw).trans (hcell k p hpk)
      have hpm := List.mem_of_getElem? hpk
      have e1 : framesL (nm :: (ps.take (k + 1)).map Pt.l) = framesL (nm :: (ps.take k).map Pt.l) ++ [len4 p.l.length, p.l] := by
        have e2 : ps.take (k + 1) = ps.take k ++ [p] := by
          rw [List.take_add_one, hpk]; rfl
        rw [e2, List.map_append, ← List.cons_append]
        exact framesL_snoc _ _
      have h1 := framed1_any _ _ _ _ _ _ _ HF.out p.A p.c p.l (.inl (Src.old (HP.out.2 p hpm))) (HL.out p hpm) (by
        rw [framesL_len, List.length_cons, List.length_map, List.length_take]
        omega)
      rw [← e1] at h1
      obtain ⟨pA, pc, pl⟩ := p
      obtain ⟨pn, hpn⟩ : ∃ n, pl.length = n := ⟨_, rfl⟩
      unfold Pt.v at c0
      simp only at c0 h1
      rw [hpn] at c0 h1
      have H1 := Lib.hid h1
      clear h1 e1 hpm hpk hcell hpn hb
      go_wp2_with fail
      refine H1.out.mono ?_
      rintro e w3 ⟨rfl, r3, f3, _⟩
      have F3 := Lib.hid f3
      clear f3
      go_wp2_with fail
      go_roundg (n - (k + 1))
      case measure => exact meas hk hlt
      case rel => exact ⟨k + 1, r3, meas2 hlt, by go_num, F3.out⟩
    · obtain rfl : k = n := by omega
      have ht : ps.take k = ps := List.take_of_length_le (by have := HN.out; omega)
      have F3 := Lib.hid HF.out
      rw [ht] at F3
      obtain ⟨A4, c4, qs, c0, hq1, hq2⟩ := F3.out.out
      have HQ1 := Lib.hid hq1
      have HQ2 := Lib.hid hq2
      have HB := Lib.hid hb
      obtain ⟨m, hm⟩ : ∃ m, qs.length = m := ⟨_, rfl⟩
      rw [hm] at c0
      have HM := Lib.hid hm
      clear hq1 hq2 hb hm ht HF F3
      go_wp2_with fail
      go_ret
      exact ⟨A4, c4, qs, by rw [HM.out]; rfl, HQ2.out, HQ1.out, HB.out⟩
end Go.Proofs.Ythnaobolmgcclaa
