/- Contracts: claims.Text. -/
import Derived.Test.YtghcdffpplimoaaDoorOr2
import Derived.Test.YtghcdffpplimoaaDoorShelfI
import Derived.Test.YtghcdffpplimoaaDoorShelfJ
import Derived.WalkSmall
import Derived.Lib.AppendIntMem
namespace Go.Proofs.YtghcdffpplimoaaDoor
set_option linter.unusedVariables false
set_option linter.unusedSimpArgs false
open Go.RowKit

abbrev Tab10' (w : World) : Prop := Lib.TabIs Tryd.prog w "internal/strconv.uint64pow10" .u64 Lib.pow10Tab
def it5 (n : Int) : ByteArray := ⟨(Lib.itoa n).toArray⟩
theorem itoa5 (n : Int) (hn : -9223372036854775808 ≤ n ∧ n ≤ 9223372036854775807) (w : World) (hT : Tab10' w) :
    Calls Tryd.prog 26 #[.int .i64 n] w fun e w' => e = .returned (.string (it5 n)) ∧ Below w.heap.size w w' := by
  refine (Go.Proofs.Tryd.strconv_Itoa n hn.1 hn.2 w hT).mono ?_
  rintro e w' ⟨rfl, k, os, rfl⟩
  exact ⟨rfl, Lib.below_grow _ _ (Nat.le_refl _) _ _⟩
theorem el_str5 : El Tryd.prog 53 9 1 16 := El.of Tryd.underlying53 (z := .string ByteArray.empty) (by kernel_rfl) rfl (by decide)
def C5.ns (c : C5) : List Int := [c.i, c.r, c.x, c.s]
/-- Claims' text. -/
def tx5 (c : C5) : ByteArray := ⟨(txt4 c.i c.r c.x c.s).toArray⟩
theorem sv5 (ns : List Int) : ∀ u ∈ ns.map (fun n => Value.string (it5 n)), u.oneCell' = true := by
  intro u hu
  obtain ⟨n, _, rfl⟩ := List.mem_map.1 hu
  rfl
theorem spans_at (c : C5) (k : Nat) (n : Int) (h : c.ns[k]? = some n) : ∃ lo hi, ∀ w, (Instr.index 62 (spansV c.i c.r c.x c.s) (.int .i64 (k : Int))).run Tryd.prog w = .ok (.agg #[.int .i64 n, .int .i64 lo, .int .i64 hi]) w := by
  obtain ⟨i, r, x, s⟩ := c
  have hk := (List.getElem?_eq_some_iff.1 h).1
  have h4 : k = 0 ∨ k = 1 ∨ k = 2 ∨ k = 3 := by simp [C5.ns] at hk; omega
  rcases h4 with rfl | rfl | rfl | rfl
  · simp [C5.ns] at h; subst h; exact ⟨1, 65535, fun w => by show _ = _; kernel_rfl⟩
  · simp [C5.ns] at h; subst h; exact ⟨0, 255, fun w => by show _ = _; kernel_rfl⟩
  · simp [C5.ns] at h; subst h; exact ⟨0, 1073741824, fun w => by show _ = _; kernel_rfl⟩
  · simp [C5.ns] at h; subst h; exact ⟨1, 65535, fun w => by show _ = _; kernel_rfl⟩

set_option maxRecDepth 100000 in
set_option maxHeartbeats 4000000 in
theorem ctext5 (c : C5) (hc : ∀ n ∈ c.ns, -9223372036854775808 ≤ n ∧ n ≤ 9223372036854775807) (w : World) (hT : ∀ w', Below w.heap.size w w' → Tab10' w') :
    Calls Tryd.prog 15 #[c.v] w fun r w' => r = .returned (.string (tx5 c)) ∧ Below w.heap.size w w' := by
  have HT := Lib.hid hT
  have HC := Lib.hid hc
  obtain ⟨TX, hTX⟩ : ∃ s, tx5 c = s := ⟨_, rfl⟩
  have HTX := Lib.hid hTX
  rw [hTX]
  have HSP := Lib.hid (fun w' => spans_any c.i c.r c.x c.s w')
  obtain ⟨V, hV⟩ : ∃ V, spansV c.i c.r c.x c.s = V := ⟨_, rfl⟩
  have HIX := Lib.hid (spans_at c)
  rw [hV] at HSP HIX
  obtain ⟨ns, hns⟩ : ∃ l, c.ns = l := ⟨_, rfl⟩
  rw [hns] at HC HIX
  have HL := Lib.hid (show ns.length = 4 by rw [← hns]; rfl)
  have HNS := Lib.hid hns
  have HB0 := Lib.hid (((Mst.start w).alloc (.cells #[.int .i64 c.i, .int .i64 c.r, .int .i64 c.x, .int .i64 c.s] 27)).nilrow 9 1)
  clear hT hc hTX hV hns
  obtain ⟨i, r, x, s⟩ := c
  simp only at HB0 HSP
  go_enter Tryd.func15, Tryd.ntmps15
  go_wp2_with fail
  refine (HSP.out _).mono ?_
  rintro e w1 ⟨rfl, hb⟩
  have Mq := Lib.hid (HB0.out.below hb)
  clear hb HB0
  go_wp2_with fail
  go_loopg [3, 8] 4 (fun gg s3 s8 wr => ∃ k : Nat, k + gg = 4 ∧ s8 = .int .i64 k ∧ Mst w wr [] [⟨9, 1, s3, k, (ns.take k).map fun n => Value.string (it5 n)⟩])
  case atStart => exact ⟨0, by omega, rfl, Mq.out⟩
  case round =>
    obtain ⟨k, hk, rfl, hm⟩ := hrel
    clear Mq
    obtain ⟨A3, c3, rfl, -, -, hcap, hform⟩ := own_form (hm.row [])
    by_cases hlt : k < 4
    · obtain ⟨n, hn⟩ : ∃ e, ns[k]? = some e := ⟨_, List.getElem?_eq_getElem (by rw [HL.out]; exact hlt)⟩
      obtain ⟨lo, hi, hix⟩ := HIX.out k n hn
      have HI := Lib.hid (fun w' h => itoa5 n (HC.out n (List.mem_of_getElem? hn)) w' h)
      obtain ⟨S, hS⟩ : ∃ s, it5 n = s := ⟨_, rfl⟩
      have HX := Lib.hid (show (ns.take (k + 1)).map (fun n => Value.string (it5 n)) = (ns.take k).map (fun n => Value.string (it5 n)) ++ [.string S] by
        rw [List.take_add_one, hn, List.map_append, ← hS]
        rfl)
      rw [hS] at HI
      have Mq := Lib.hid (hm.new 61 #[.int .i64 n, .int .i64 lo, .int .i64 hi])
      have c0 := (Mq.out.blk []).cell 0
      simp only [List.getElem?_toArray, List.getElem?_cons_zero] at c0
      have i1 : (k : Int) < 4 := by omega
      have i2 : (0 : Int) ≤ k := by omega
      clear hm hn hS hform hcap
      go_wp2_with fail
      refine (HI.out _ (HT.out _ Mq.out.bel)).mono ?_
      rintro e w2 ⟨rfl, hb⟩
      have M2 := Lib.hid (((Mq.out.below hb).dropb.newrow 9 1 1 1 #[.string S] (Nat.le_refl _) (by decide) rfl).perm (List.Perm.refl _) (List.Perm.swap _ _ _))
      clear hb c0 hix
      go_wp2_with (at_builtin; refine wpList_appE5 rfl _ _ 53 rfl [] M2.out el_str5 rfl _ (some ⟨w2.heap.size, 0, none⟩) 1 1 [.string S] rfl (M2.out.src (M2.out.rowSrc (List.mem_cons_of_mem _ (List.mem_cons_self ..)))) (one1 _ rfl) (by unfold maxLen; omega) (by omega) ?_; intro A5 c5 w5 N5 X5 hn5 hx5 mq; have Mr := Lib.hid mq; have HN5 := Lib.hid hn5; have HX5 := Lib.hid hx5; clear mq hn5 hx5)
      go_roundg (4 - (k + 1))
      case measure => exact meas hk hlt
      case rel => exact ⟨k + 1, meas2 hlt, by go_num, by
        have m := Mr.out.sub (bl' := []) (ow' := [_]) (List.Sublist.refl _) ((List.nil_sublist _).cons_cons _)
        have h5 : N5 = k + 1 := HN5.out
        rw [HX5.out, h5] at m
        rw [h5, HX.out]
        exact m⟩
    · obtain rfl : k = 4 := by omega
      obtain ⟨g, rfl, -, hglt⟩ := hform (by decide)
      have HJ := Lib.hid (Go.Proofs.Tryd.strings_Join g 0 c3 (ns.map it5) ⟨#[32]⟩ wr (fun j y hj => by
          have h := own_rd (hm.row [])
          obtain ⟨b, o, e, _, hcell⟩ := h.2 (by decide)
          injection e with e
          injection e with e1 e2 _
          subst e1 e2
          have hj2 : ((ns.take 4).map fun n => Value.string (it5 n))[j]? = some (.string y) := by
            rw [List.take_of_length_le (by rw [HL.out]; exact Nat.le_refl _)]
            rw [List.getElem?_map] at hj ⊢
            obtain ⟨z, hz1, hz2⟩ := Option.map_eq_some_iff.1 hj
            rw [hz1, ← hz2]
            rfl
          have := hcell j _ hj2
          simpa using this) hglt (by rw [List.length_map, HL.out]; decide) (by rw [List.length_map, HL.out]; exact hcap) (by
          have hj : (ns.map it5).map (fun b => b.data.toList) = ns.map Lib.itoa := by
            rw [List.map_map]
            rfl
          rw [hj, ← HNS.out]
          show (Lib.join [Lib.itoa i, Lib.itoa r, Lib.itoa x, Lib.itoa s] [32]).length ≤ _
          rw [txt4_join]
          have q := fun n hn => Lib.itoa_length_le n (HC.out n hn).1 (HC.out n hn).2
          rw [← HNS.out] at q
          have q1 := q i (by simp [C5.ns])
          have q2 := q r (by simp [C5.ns])
          have q3 := q x (by simp [C5.ns])
          have q4 := q s (by simp [C5.ns])
          simp only [txt4, List.length_append, List.length_cons]
          omega))
      have hres : (⟨(Lib.join ((ns.map it5).map (fun b => b.data.toList)) (⟨#[32]⟩ : ByteArray).data.toList).toArray⟩ : ByteArray) = TX := by
        rw [← HTX.out, ← HNS.out]
        show (⟨(Lib.join [Lib.itoa i, Lib.itoa r, Lib.itoa x, Lib.itoa s] [32]).toArray⟩ : ByteArray) = _
        rw [txt4_join]
        rfl
      have hlen : (ns.map it5).length = 4 := by rw [List.length_map, HL.out]
      rw [hlen, hres] at HJ
      have Mq := Lib.hid hm
      clear hm hform hcap hglt hres hlen hk hlt
      go_wp2_with fail
      refine HJ.out.mono ?_
      rintro e w6 ⟨rfl, hb⟩
      have Mq := Lib.hid (Mq.out.below hb)
      clear hb
      go_wp2
      go_ret
      exact ⟨rfl, Mq.out.bel⟩
end Go.Proofs.YtghcdffpplimoaaDoor
