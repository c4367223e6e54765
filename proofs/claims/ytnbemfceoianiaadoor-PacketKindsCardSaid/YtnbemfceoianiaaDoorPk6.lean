/- Bytes in new memory that may be written and appended to; bytes.Join. -/
import Derived.Test.YtnbemfceoianiaaDoorPk1
import Derived.Test.YtnbemfceoianiaaDoorExtB
import Derived.Test.YtnbemfceoianiaaDoorShelfP
import Derived.ArgAppend
import Derived.Deep.Upon
namespace Go.Proofs.YtnbemfceoianiaaDoor
set_option linter.unusedVariables false
set_option linter.unusedSimpArgs false
open Go.RowKit

/-- v is a slice of the bytes l in a block from B on, whose cells are there and may be written. -/
def FrB (B : Nat) (w : World) (v : Value) (l : List UInt8) : Prop :=
  ∃ g c, v = .slice (some ⟨g, 0, none⟩) l.length c ∧ B ≤ g ∧ g < w.heap.size ∧ l.length ≤ c ∧ c ≤ maxLen ∧ (∀ (j : Nat) u, (by8 l)[j]? = some u → w.cell? ⟨g, j, none⟩ = some u) ∧ (∀ j, j < c → (w.cell? ⟨g, j, none⟩).isSome = true ∧ w.frozen? ⟨g, j, none⟩ = false)
theorem FrB.rb {B : Nat} {w : World} {v : Value} {l : List UInt8} (h : FrB B w v l) : ∃ A c, v = .slice A l.length c ∧ RB w w.heap.size A l ∧ l.length ≤ c ∧ c ≤ 9223372036854775807 := by
  obtain ⟨g, c, rfl, h1, h2, h3, h4, h5, h6⟩ := h
  refine ⟨_, c, rfl, ⟨by simp [by8], fun _ => ⟨g, 0, rfl, h2, fun j u hu => ?_⟩⟩, h3, by unfold maxLen at h4; omega⟩
  rw [Nat.zero_add]
  exact h5 j u hu
theorem FrB.below {B : Nat} {w w' : World} {v : Value} {l : List UInt8} (h : FrB B w v l) (hb : Below w.heap.size w w') : FrB B w' v l := by
  obtain ⟨g, c, rfl, h1, h2, h3, h4, h5, h6⟩ := h
  refine ⟨g, c, rfl, h1, Nat.lt_of_lt_of_le h2 hb.size, h3, h4, fun j u hu => (hb.cell (p := ⟨g, j, none⟩) h2).trans (h5 j u hu), fun j hj => ?_⟩
  rw [hb.cell (p := ⟨g, j, none⟩) h2, hb.frozen (p := ⟨g, j, none⟩) h2]
  exact h6 j hj
theorem FrB.base {B B' : Nat} {w : World} {v : Value} {l : List UInt8} (h : FrB B w v l) (hB : B' ≤ B) : FrB B' w v l := by
  obtain ⟨g, c, h0, h1, h2⟩ := h
  exact ⟨g, c, h0, Nat.le_trans hB h1, h2⟩
theorem FrB.of_own {B : Nat} {w : World} {v : Value} {n : Nat} {l : List UInt8} (h : w.ownsRow B 5 1 v n (by8 l)) (h0 : 0 < l.length) : FrB B w v l := by
  have hn : l.length = n := by have := h.1; simpa [by8] using this
  rcases h.2 with ⟨_, h2⟩ | ⟨g, cap, cur, rfl, h1, h2, h3, h4, h5, h6⟩
  · rw [h2] at hn; omega
  · subst hn
    have hk : Bk w g 5 cur := h2
    refine ⟨g, cap, rfl, h1, hk.lt, h3, h4, fun j u hu => ?_, fun j hj => ⟨?_, hk.fr j⟩⟩
    · have := h.cells (g := g) rfl j u hu
      rwa [WideShapes.add_plain, Nat.zero_add] at this
    · rw [hk.cell]
      simp
      omega
theorem FrB.of_fresh {B : Nat} {w : World} {v : Value} {l : List UInt8} (h : Lib.FreshBytes B w v l) (h0 : 0 < l.length) : FrB B w v l := by
  obtain ⟨g, cap, zs, rfl, h1, h2, h3, h4, h5, h6, h7, h8⟩ := h
  have hc0 := h7 0 (by omega)
  have hg : g < w.heap.size := block_lt_of_cell hc0
  refine ⟨g, cap, rfl, h1, hg, h2, h3, fun j u hu => ?_, fun j hj => ⟨by rw [h7 j hj]; rfl, h8 j hj⟩⟩
  have hj : j < l.length := by
    have := (List.getElem?_eq_some_iff.1 hu).1
    simpa [by8] using this
  rw [h7 j (by omega)]
  obtain ⟨b, hb⟩ : ∃ b, l[j]? = some b := ⟨_, List.getElem?_eq_getElem hj⟩
  have hu2 := by8_get hb
  rw [hu] at hu2
  rw [hu2]
  have hz : zs[j]? = some (zs.getD j 0) := by
    rw [List.getD_eq_getElem?_getD, List.getElem?_eq_getElem (by omega)]
    rfl
  have hbz : (Lib.bytesOf (zs.take l.length))[j]? = some b := by rw [h6, hb]
  unfold Lib.bytesOf at hbz
  rw [List.getElem?_map, List.getElem?_take, if_pos hj, hz] at hbz
  simp only [Option.map_some, Option.some.injEq] at hbz
  have hr := h5 (zs.getD j 0) (List.mem_of_getElem? hz)
  rw [← hbz, UInt8.toNat_ofNat']
  congr 2
  omega
theorem On.setCells {a : World} {g : Nat} : ∀ (vs : List Value) (o : Nat) (w : World), On a w g → On a (w.setCells g o vs) g
  | [], _, _, h => h
  | v :: vs, o, w, h => On.setCells vs (o + 1) _ (h.set (p := ⟨g, o, none⟩) (.inl rfl) v)
/-- An append onto such bytes. -/
theorem run_appFr (w : World) {B : Nat} {v : Value} {l : List UInt8} (hv : FrB B w v l) (a : Addr) (m c : Nat) (ns : List UInt8) (hm : ns.length = m) (hr : RB w w.heap.size (some a) ns) (h0 : 0 < m) (hlen : l.length + m ≤ 1000000) :
    ∃ v' w', (Builtin.append_ #[30, 30] 30 #[v, .slice (some a) m c]).run Tryd.prog w = .ok v' w' ∧ FrB B w' v' (l ++ ns) ∧ Below B w w' := by
  obtain ⟨g, cap, rfl, h1, h2, h3, h4, h5, h6⟩ := hv
  have hn1 : (by8 ns).length = m * 1 := by simp [by8, hm]
  obtain ⟨ba, oa, ea, hba, hca⟩ := hr.2 (by omega)
  injection ea with ea
  subst ea
  have hcs : ∀ (j : Nat) u, (by8 ns)[j]? = some u → w.cell? ((⟨ba, oa, none⟩ : Addr).add j) = some u := fun j u hu => by
    rw [WideShapes.add_plain]
    exact hca j u hu
  have hinfo : (Tryd.prog.info? 5).map (fun i => (i.zero, i.size, i.bytes)) = some (some (.int .u8 0), 1, 1) := by kernel_rfl
  obtain ⟨i, hi, hii⟩ := Option.map_eq_some_iff.1 hinfo
  simp only [Prod.mk.injEq] at hii
  obtain ⟨hz, hsz, hby⟩ := hii
  by_cases hroom : l.length + m ≤ cap
  · have hrun := run_append_room_cells (P := Tryd.prog) w 30 30 5 i Tryd.underlying30 hi g 0 l.length cap ⟨ba, oa, none⟩ m c (by8 ns) (by rw [hsz]; exact hn1) hcs (by8_one _) hroom
      (fun j hj => by rw [hsz]; exact (h6 _ (by rw [hn1] at hj; omega)).1) (fun j hj => by rw [hsz]; exact (h6 _ (by rw [hn1] at hj; omega)).2)
    rw [hsz, Nat.zero_add, Nat.mul_one] at hrun
    have hthere : w.there g l.length (by8 ns).length := fun j hj => h6 _ (by rw [hn1] at hj; omega)
    have hsame := World.rangeAt_setCells_same w g l.length (by8 ns) hthere
    have hap := World.rangeAt_setCells_apart (w := w) (b' := g) (o' := 0) (cs := by8 l) (fun j u hu => by rw [Nat.zero_add]; exact h5 j u hu) g l.length (by8 ns) (.inr (.inl (by simp [by8])))
    have hon := On.setCells (by8 ns) l.length w (On.refl w g)
    refine ⟨_, _, hrun, ⟨g, cap, by rw [List.length_append, hm], h1, Nat.lt_of_lt_of_le h2 hon.size, by rw [List.length_append, hm]; exact hroom, h4, fun j u hu => ?_, fun j hj => ?_⟩, hon.below h1 (by omega)⟩
    · rw [by8_append, List.getElem?_append] at hu
      split at hu
      · have := hap j u hu
        rwa [Nat.zero_add] at this
      · rename_i hge
        have := hsame _ u hu
        rw [by8_length] at this hge
        rwa [show l.length + (j - l.length) = j by omega] at this
    · have := World.there_setCells (b' := g) (o' := 0) (n := cap) (fun j hj => by rw [Nat.zero_add]; exact h6 j hj) g l.length (by8 ns) j hj
      rwa [Nat.zero_add] at this
  · obtain ⟨v', w', hrun, hown, hg⟩ := run_append_arg_grows (P := Tryd.prog) w 30 30 5 i (.int .u8 0) 1 1 Tryd.underlying30 hi hz hsz hby rfl (by decide) ⟨g, 0, none⟩ l.length cap (by8 l) (by simp [by8]) (fun j u hu => by rw [WideShapes.add_plain, Nat.zero_add]; exact h5 j u hu)
      ⟨ba, oa, none⟩ m c (by8 ns) hn1 hcs (by omega) (by unfold maxLen; omega) (by omega)
    rw [← by8_append] at hown
    refine ⟨v', w', hrun, (FrB.of_own hown (by simp; omega)).base (by omega), ?_⟩
    exact ⟨hg.os, hg.tape, hg.output, hg.size, fun k hk => hg.block k (by omega) (by simp)⟩
theorem wpList_appFr {ops : Array Oper} {rest : List Oper} {o : Oper} {a : Act} {Q : Exit → Act → World → Prop} (hgd : o.guard = none) (s x : Operand)
    (ho : o.op = .call { callee := .builtin .append, args := #[s, x], argTypes := #[30, 30] }) (hty : o.type = 30) (w : World) {B : Nat} {v : Value} {l : List UInt8} (hv : FrB B w v l) (hs : a.eval s = v) (ad : Addr) (m c : Nat) (ns : List UInt8) (hx : a.eval x = .slice (some ad) m c)
    (hm : ns.length = m) (hr : RB w w.heap.size (some ad) ns) (h0 : 0 < m) (hlen : l.length + m ≤ 1000000)
    (h : ∀ v' w', FrB B w' v' (l ++ ns) → Below B w w' → wpList Tryd.prog ops Q rest (a.put o.dst v') w') : wpList Tryd.prog ops Q (o :: rest) a w := by
  obtain ⟨v', w', hrun, h1, h2⟩ := run_appFr w hv ad m c ns hm hr h0 hlen
  refine wpList_plain hgd fun _ hK => ?_
  unfold Oper.wp execOp
  simp only [ho, resolve, invoke, builtin, Sem.run_bind, Sem.run_pure, Result.andThen_ok, List.map_toArray, List.map_cons, List.map_nil, hs, hx, hty, hrun]
  exact hK _ _ (h v' w' h1 h2)
theorem Pts.parts {w : World} {b o : Nat} {ps : List Pt} (h : Pts w (some ⟨b, o, none⟩) ps) (h0 : 0 < ps.length) : Lib.PartsAt w ⟨b, o, none⟩ (ps.map Pt.v) (ps.map Pt.l) := by
  refine ⟨by simp, fun i v hv => ?_, fun i v l hv hl => ?_⟩
  · obtain ⟨b', o', e, _, hc⟩ := h.1.2 h0
    injection e with e
    injection e with e1 e2 _
    subst e1 e2
    rw [WideShapes.add_plain]
    exact hc i v hv
  · simp only [List.getElem?_map, Option.map_eq_some_iff] at hv hl
    obtain ⟨p, hp, rfl⟩ := hv
    obtain ⟨q, hq, rfl⟩ := hl
    rw [hp] at hq
    injection hq with hq
    subst hq
    have hr := h.2 p (List.mem_of_getElem? hp)
    refine ⟨p.A, p.c, rfl, fun hA => ?_, fun a hA i x hx => ?_⟩
    · rcases Nat.eq_zero_or_pos p.l.length with h1 | h1
      · exact List.eq_nil_of_length_eq_zero h1
      · obtain ⟨b', o', e, _⟩ := hr.2 h1
        rw [hA] at e
        cases e
    · obtain ⟨b', o', e, _, hc⟩ := hr.2 (by have := (List.getElem?_eq_some_iff.1 hx).1; omega)
      rw [hA] at e
      injection e with e
      subst e
      rw [WideShapes.add_plain]
      exact hc i _ (by8_get hx)
theorem join_nil (ls : List (List UInt8)) : Lib.join ls [] = ls.flatten := by
  cases ls with
  | nil => rfl
  | cons x r => simp [Lib.join_cons, Lib.joinTail]
theorem bjoin_any (w : World) (b c n : Nat) (ps : List Pt) (hn : ps.length = n) (h2 : 2 ≤ n) (hc : n ≤ c) (hp : Pts w (some ⟨b, 0, none⟩) ps) (hn5 : n ≤ 1000) (hlen : (catP ps).length ≤ 1000000) (h0 : 0 < (catP ps).length) :
    Calls Tryd.prog 24 #[.slice (some ⟨b, 0, none⟩) n c, .slice none 0 0] w fun e w' => ∃ v', e = .returned v' ∧ FrB w.heap.size w' v' (catP ps) ∧ Below w.heap.size w w' := by
  have hl : Lib.lens (ps.map Pt.l) = (catP ps).length := by
    unfold Lib.lens catP
    rw [List.length_flatten]
  have h := Go.Proofs.Tryd.bytes_Join_many b 0 n c (ps.map Pt.v) (ps.map Pt.l) (.slice none 0 0) [] w (by simpa using hn) h2 (hp.parts (by omega)) hc ⟨none, 0, rfl, fun _ => rfl, fun a h => by cases h⟩ (by omega) (by rw [hl]; simp; omega)
  refine h.mono ?_
  rintro e w' ⟨v', rfl, hf, hb⟩
  rw [join_nil] at hf
  exact ⟨v', rfl, FrB.of_fresh hf h0, hb⟩
end Go.Proofs.YtnbemfceoianiaaDoor
