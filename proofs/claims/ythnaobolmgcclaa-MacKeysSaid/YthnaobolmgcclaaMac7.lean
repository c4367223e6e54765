/- Contracts of the document's Frame and Derive. -/
import Derived.Test.YthnaobolmgcclaaMac6
namespace Go.Proofs.Ythnaobolmgcclaa
set_option linter.unusedVariables false
set_option linter.unusedSimpArgs false
open Go.RowKit

theorem frameB_take {ps : List Pt} {k : Nat} {p : Pt} (h : ps[k]? = some p) : frameB ((ps.take (k + 1)).map Pt.l) = frameB ((ps.take k).map Pt.l) ++ len4 p.l.length ++ p.l := by
  have e2 : ps.take (k + 1) = ps.take k ++ [p] := by
    rw [List.take_add_one, h]; rfl
  rw [e2, List.map_append]
  show (framesL (_ ++ [p.l])).flatten = _
  rw [framesL_snoc]
  simp [frameB]
theorem frameP_len (ps : List Pt) (M : Nat) (h : ∀ p ∈ ps, p.l.length ≤ M) (k : Nat) : (frameB ((ps.take k).map Pt.l)).length ≤ ps.length * (4 + M) := by
  have := frameB_len ((ps.take k).map Pt.l) M (by
    intro l hl
    obtain ⟨p, hp, rfl⟩ := List.mem_map.1 hl
    exact h p (List.mem_of_mem_take hp))
  refine Nat.le_trans this (Nat.mul_le_mul_right _ ?_)
  rw [List.length_map, List.length_take]
  omega
theorem len4_cells (m : Nat) (h : m < 4294967296) : [Value.int .u8 ((m : Int) / 16777216), .int .u8 ((m : Int) / 65536 % 256), .int .u8 ((m : Int) / 256 % 256), .int .u8 ((m : Int) % 256)] = by8 (len4 m) := by
  have e : ∀ k : Nat, (((UInt8.ofNat (m >>> k)).toNat : Nat) : Int) = (m : Int) / ((2 ^ k : Nat) : Int) % 256 := fun k => by
    rw [UInt8.toNat_ofNat', Nat.shiftRight_eq_div_pow]
    omega
  have e0 : (((UInt8.ofNat m).toNat : Nat) : Int) = (m : Int) % 256 := by
    rw [UInt8.toNat_ofNat']
    omega
  have e24 := e 24
  have e16 := e 16
  have e8 := e 8
  have d24 : (m : Int) / 16777216 % 256 = (m : Int) / 16777216 := by omega
  simp only [Nat.reducePow, Int.cast_ofNat_Int] at e24 e16 e8
  rw [d24] at e24
  simp only [len4, by8, List.map_cons, List.map_nil, e0, e24, e16, e8]
structure FmR (w wr : World) (v : Value) (l : List UInt8) : Prop where
  m : Mst w wr [] [⟨5, 1, v, l.length, by8 l⟩]
set_option maxRecDepth 100000 in
set_option maxHeartbeats 1000000 in
theorem refframe_any (w : World) (A : Option Addr) (c : Nat) (ps : List Pt) (hp : Pts w A ps) (hn : ps.length ≤ 100) (hl : ∀ p ∈ ps, p.l.length ≤ 1000) :
    Calls Try.prog 55 #[.slice A ps.length c] w fun e w' => ∃ A' c', e = .returned (.slice A' (frameB (ps.map Pt.l)).length c') ∧ Fresh w w' 5 1 (.slice A' (frameB (ps.map Pt.l)).length c') (frameB (ps.map Pt.l)).length (by8 (frameB (ps.map Pt.l))) := by
  obtain ⟨n, hN⟩ : ∃ n, ps.length = n := ⟨_, rfl⟩
  have HB := Lib.hid (show ∀ k, (frameB ((ps.take k).map Pt.l)).length ≤ 100400 from fun k => by
    have := frameP_len ps 1000 hl k
    have : ps.length * (4 + 1000) ≤ 100 * 1004 := Nat.mul_le_mul hn (by omega)
    omega)
  have HN := Lib.hid hN
  have HP := Lib.hid hp
  have HL := Lib.hid hl
  rw [hN] at hn ⊢
  clear hp hN hl
  go_enter Try.func55, Try.ntmps55
  go_wp2_with fail
  go_loopg [4, 3] n (fun gk s4 s3 wr => ∃ k : Nat, k + gk = n ∧ s4 = .int .i64 k ∧ FmR w wr s3 (frameB ((ps.take k).map Pt.l)))
  case atStart => exact ⟨0, by omega, rfl, ⟨(Mst.start w).nilrow _ _⟩⟩
  case round =>
    obtain ⟨k, hk, rfl, ⟨hm⟩⟩ := hrel
    by_cases hlt : k < n
    · obtain ⟨p, hpk⟩ : ∃ p, ps[k]? = some p := ⟨_, List.getElem?_eq_getElem (by have := HN.out; omega)⟩
      obtain ⟨b, o, rfl, hbw, hcell⟩ := HP.out.at_ (by have := HN.out; omega)
      have c00 := hcell k p hpk
      have hpm := List.mem_of_getElem? hpk
      have e1 := frameB_take hpk
      have hpl := HL.out p hpm
      have hrd := HP.out.2 p hpm
      have hbd := HB.out k
      obtain ⟨pA, pc, pl⟩ := p
      obtain ⟨m, hm4⟩ : ∃ n, pl.length = n := ⟨_, rfl⟩
      obtain ⟨F, hF⟩ : ∃ F, frameB ((ps.take k).map Pt.l) = F := ⟨_, rfl⟩
      obtain ⟨S, hS⟩ : ∃ S, F.length = S := ⟨_, rfl⟩
      unfold Pt.v at c00
      simp only at c00 e1 hpl hrd
      rw [hF] at e1 hm hbd
      rw [hS] at hm hbd
      rw [hm4] at c00 e1 hpl
      have c0 := hm.old hbw c00
      have C00 := Lib.hid c00
      have L4 := Lib.hid (len4_cells m (by omega))
      have hrd2 : Src w [] [] 1 pA m (by8 pl) := by rw [← hm4]; exact Src.old hrd
      have HM := Lib.hid hm
      have HRD := Lib.hid hrd2
      have E1 := Lib.hid e1
      have HM4 := Lib.hid hm4
      have HS := Lib.hid hS
      obtain ⟨A3, c3, rfl, _⟩ := own_form (hm.row [])
      clear c00 e1 hpm hpk hcell hm4 hm hrd hrd2 hF hS
      go_wp2_with (at_builtin; first
        | (refine wpList_appE rfl _ _ 26 rfl [] (HM.out.alloc _) el_u8c rfl _ _ 4 4 _ rfl (Rd.new1 _ #[.int .u8 ((m : Int) / 16777216), .int .u8 ((m : Int) / 65536 % 256), .int .u8 ((m : Int) / 256 % 256), .int .u8 ((m : Int) % 256)] _ rfl) (by simp [Value.oneCell']) (by unfold maxLen; omega) (by omega) ?_; intro A5 c5 w5 N5 X5 hn5 hx5 mq; have M5 := Lib.hid mq; have HN5 := Lib.hid hn5; have HX5 := Lib.hid hx5; have c5 := mq.old hbw C00.out; clear mq hn5 hx5)
        | (refine wpList_appE rfl _ _ 26 rfl [] M5.out el_u8c rfl _ pA m pc (by8 pl) rfl (M5.out.src (HRD.out.sub (fun _ h => nomatch h) (fun _ h => nomatch h))) (by8_one _) (by rw [HN5.out]; unfold maxLen; omega) (by rw [HN5.out]; omega) ?_; intro A6 c6 w6 N6 X6 hn6 hx6 mq; have M6 := Lib.hid mq; have HN6 := Lib.hid hn6; have HX6 := Lib.hid hx6; clear mq hn6 hx6))
      go_roundg (n - (k + 1))
      case measure => exact meas hk hlt
      case rel => exact ⟨k + 1, meas2 hlt, by go_num, ⟨by
        have h1 : N6 = (F ++ len4 m ++ pl).length := by rw [HN6.out, HN5.out, List.length_append, List.length_append, HS.out, HM4.out]; rfl
        have h2 : X6 = by8 (F ++ len4 m ++ pl) := by rw [HX6.out, HX5.out, by8_append, by8_append, ← L4.out]
        rw [E1.out, ← h1, ← h2]
        exact M6.out⟩⟩
    · obtain rfl : k = n := by omega
      have ht : ps.take k = ps := List.take_of_length_le (by have := HN.out; omega)
      rw [ht] at hm
      obtain ⟨A3, c3, rfl, _⟩ := own_form (hm.row [])
      have HM := Lib.hid hm
      clear hm ht
      go_wp2_with fail
      go_ret
      exact ⟨_, _, rfl, HM.out.bel, HM.out.row []⟩
end Go.Proofs.Ythnaobolmgcclaa
