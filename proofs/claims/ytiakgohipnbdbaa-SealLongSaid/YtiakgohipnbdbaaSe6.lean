/- Package seal: contract of Open. -/
import Derived.Test.YtiakgohipnbdbaaSe5
namespace Go.Proofs.Ytiakgohipnbdbaa
set_option linter.unusedVariables false
set_option linter.unusedSimpArgs false
open Go.RowKit

theorem RB.dropn {w : World} {B b o : Nat} {l : List UInt8} (h : RB w B (some ⟨b, o, none⟩) l) (n : Nat) : RB w B (some ⟨b, o + n, none⟩) (l.drop n) := by
  refine ⟨by simp [by8], fun hn => ?_⟩
  rw [List.length_drop] at hn
  obtain ⟨b', o', e, hb, hc⟩ := h.2 (by omega)
  injection e with e
  injection e with e1 e2 _
  subst e1 e2
  refine ⟨b, o + n, rfl, hb, fun j u hu => ?_⟩
  rw [Nat.add_assoc]
  refine hc (n + j) u ?_
  simp only [by8, List.map_drop, List.getElem?_drop] at hu ⊢
  exact hu

/-- What sealed bytes are opened as: the error, and the bytes. -/
def opOk (kb nc bd l : List UInt8) : Bool := decide (sTag kb nc bd (l.take (l.length - 32)) = l.drop (l.length - 32))
def opL (kb nc l : List UInt8) : List UInt8 := bodyB kb nc (l.take (l.length - 32))

section
variable (w : World) (gk : Nat) (A : Option Addr) (N c : Nat) (v2 : Value) (As : Option Addr) (n cs : Nat)
theorem open_nil : Calls Try.prog 40 #[.pointer none, .slice A N c, v2, .slice As n cs] w fun e w' => e = .returned (.tuple #[.slice none 0 0, .int .i64 1]) ∧ w = w' := by
  have HCH := Lib.hid (scheck_nil A N c)
  go_enter Try.func40, Try.ntmps40
  go_wp2_with fail
  refine (HCH.out _).mono ?_
  rintro e w1 ⟨rfl, rfl⟩
  go_wp2
  go_ret2
  exact ⟨rfl, rfl⟩
theorem open_arg (h : 32 < N) : Calls Try.prog 40 #[.pointer (some ⟨gk, 0, none⟩), .slice A N c, v2, .slice As n cs] w fun e w' => e = .returned (.tuple #[.slice none 0 0, .int .i64 1]) ∧ w = w' := by
  have HCH := Lib.hid (scheck_no gk A N c h)
  clear h
  go_enter Try.func40, Try.ntmps40
  go_wp2_with fail
  refine (HCH.out _).mono ?_
  rintro e w1 ⟨rfl, rfl⟩
  go_wp2
  go_ret2
  exact ⟨rfl, rfl⟩
theorem open_end (h : N ≤ 32) (h2 : n < 32) : Calls Try.prog 40 #[.pointer (some ⟨gk, 0, none⟩), .slice A N c, v2, .slice As n cs] w fun e w' => e = .returned (.tuple #[.slice none 0 0, .int .i64 4]) ∧ w = w' := by
  have HCH := Lib.hid (scheck_ok gk A N c h)
  have i1 : decide ((n : Int) - 32 < 0) = true := by simp; omega
  clear h
  go_enter Try.func40, Try.ntmps40
  go_wp2_with fail
  refine (HCH.out _).mono ?_
  rintro e w1 ⟨rfl, rfl⟩
  go_wp2
  go_ret2
  exact ⟨rfl, rfl⟩
theorem open_long (h : N ≤ 32) (h2 : 65568 < n) (h3 : n ≤ 1000000) : Calls Try.prog 40 #[.pointer (some ⟨gk, 0, none⟩), .slice A N c, v2, .slice As n cs] w fun e w' => e = .returned (.tuple #[.slice none 0 0, .int .i64 2]) ∧ w = w' := by
  have HCH := Lib.hid (scheck_ok gk A N c h)
  have i1 : decide ((n : Int) - 32 < 0) = false := by simp; omega
  have i2 : decide (65536 < (n : Int) - 32) = true := by simp; omega
  have i3 : (n : Int) ≤ 1000000 := by omega
  have i4 : (65568 : Int) < n := by omega
  clear h h2 h3
  go_enter Try.func40, Try.ntmps40
  go_wp2_with fail
  refine (HCH.out _).mono ?_
  rintro e w1 ⟨rfl, rfl⟩
  go_wp2
  go_ret2
  exact ⟨rfl, rfl⟩
end

set_option maxRecDepth 100000 in
set_option maxHeartbeats 1600000 in
theorem open_any (w : World) (gk : Nat) (kb : List UInt8) (hk : KeyW w gk kb) (hkl : kb.length ≤ 1000) (A : Option Addr) (c : Nat) (nc : List UInt8) (hr : RB w w.heap.size A nc) (hn : nc.length ≤ 32)
    (Ad : Option Addr) (cd : Nat) (bd : List UInt8) (hrd : RB w w.heap.size Ad bd) (hnd : bd.length ≤ 1000) (As : Option Addr) (cs : Nat) (l : List UInt8) (hrs : RB w w.heap.size As l) (hl1 : 32 ≤ l.length) (hl2 : l.length ≤ 65568) (hcs : l.length ≤ cs) (hcs2 : cs ≤ 9223372036854775807) :
    Calls Try.prog 40 #[.pointer (some ⟨gk, 0, none⟩), .slice A nc.length c, .slice Ad bd.length cd, .slice As l.length cs] w fun e w' =>
      (opOk kb nc bd l = true → ∃ A' c', e = .returned (.tuple #[.slice A' (l.length - 32) c', .int .i64 0]) ∧ Below w.heap.size w w' ∧ NewB w w' A' (opL kb nc l)) ∧
      (opOk kb nc bd l = false → e = .returned (.tuple #[.slice none 0 0, .int .i64 5]) ∧ Below w.heap.size w w') := by
  obtain ⟨n, hn0⟩ : ∃ n, l.length = n + 32 := ⟨l.length - 32, by omega⟩
  obtain ⟨bs, os, rfl, hbw, _⟩ := hrs.2 (by omega)
  have hbody : (l.take n).length = n := by rw [List.length_take]; omega
  have hdrop : (l.drop n).length = 32 := by rw [List.length_drop]; omega
  have hok : opOk kb nc bd l = decide (sTag kb nc bd (l.take n) = l.drop n) := by rw [opOk, hn0]; rfl
  have hoL : opL kb nc l = bodyB kb nc (l.take n) := by rw [opL, hn0]; rfl
  rw [hn0] at hl2 hcs
  rw [hok, hoL, hn0, show n + 32 - 32 = n from rfl]
  have hrb : RB w w.heap.size (some ⟨bs, os, none⟩) (l.take n) := hrs.cut n
  have hrd2 : RB w w.heap.size (some ⟨bs, os + n, none⟩) (l.drop n) := hrs.dropn n
  obtain ⟨B, hB⟩ : ∃ B, l.take n = B := ⟨_, rfl⟩
  obtain ⟨R, hR⟩ : ∃ R, l.drop n = R := ⟨_, rfl⟩
  rw [hB] at hbody hrb ⊢
  rw [hR] at hdrop hrd2 ⊢
  clear hok hoL hrs hB hR hl1 hn0
  have HCH := Lib.hid (scheck_ok gk A nc.length c hn)
  have HS := Lib.hid (show ∀ w', Below w.heap.size w w' → _ from fun w' hb => stream_any w' gk kb (hk.keep hb) hkl A c nc (hr.keep hb) hn n (by omega))
  have HTU := Lib.hid (show ∀ w' w2 A', Below w.heap.size w w2 → NewB w' w2 A' (strB (hideK kb) nc n) → Calls Try.prog 71 #[.slice (some ⟨bs, os, none⟩) n n, .slice A' n n] w2 (RetFresh w2 5 1 n (by8 (bodyB kb nc B))) from fun w' w2 A' hb hnb' => by
    have := turned_any2 w2 (some ⟨bs, os, none⟩) n B (hrb.keep hb) A' n _ hnb'.rb (by rw [strB_len]; omega) (by omega)
    rw [strB_len, hbody] at this
    rw [show bodyB kb nc B = trn B (strB (hideK kb) nc n) by rw [bodyB, hbody]]
    exact this)
  have hsT : sTag kb nc bd B = macT (bindK kb) (frameB [nc, bd, B]) := rfl
  obtain ⟨T, hT⟩ : ∃ l, sTag kb nc bd B = l := ⟨_, rfl⟩
  have hTl : T.length = 32 := by rw [← hT]; rfl
  rw [hT] at hsT ⊢
  obtain ⟨N, hN⟩ : ∃ n, nc.length = n := ⟨_, rfl⟩
  obtain ⟨D, hD⟩ : ∃ n, bd.length = n := ⟨_, rfl⟩
  rw [hN] at HCH HS hn ⊢
  rw [hD] at hnd ⊢
  have HTG := Lib.hid (show ∀ w' A' c', Below w.heap.size w w' → Pts w' A' [⟨A, c, nc⟩, ⟨Ad, cd, bd⟩, ⟨some ⟨bs, os, none⟩, n, B⟩] → Calls Try.prog 70 #[.pointer (some ⟨gk, 0, none⟩), .slice A' 3 c'] w' fun e w2 => e = .returned (.agg (b8a T)) ∧ Below w'.heap.size w' w2 from fun w' A' c' hb hp => by
    have := stag_any w' gk kb (hk.keep hb) hkl A' c' _ hp (by simp) (List.forall3 (by show nc.length ≤ _; omega) (by show bd.length ≤ _; omega) (by show B.length ≤ _; omega))
    rw [show List.map Pt.l [(⟨A, c, nc⟩ : Pt), ⟨Ad, cd, bd⟩, ⟨some ⟨bs, os, none⟩, n, B⟩] = [nc, bd, B] from rfl, ← hsT] at this
    exact this)
  have HEQ := Lib.hid (show ∀ w' g c', Below w.heap.size w w' → RB w' w'.heap.size (some ⟨g, 0, none⟩) T → Calls Try.prog 65 #[.slice (some ⟨g, 0, none⟩) 32 32, .slice (some ⟨bs, os + n, none⟩) 32 c'] w' fun e w2 => e = .returned (.bool (decide (T = R))) ∧ Below w'.heap.size w' w2 from fun w' g c' hb h => by
    have := equal2_any (some ⟨g, 0, none⟩) (some ⟨bs, os + n, none⟩) 32 c' T R w' h (hrd2.keep hb) (by rw [hTl]; decide)
    rw [hTl, hdrop] at this
    exact this)
  have HTL := Lib.hid hTl
  have HBL := Lib.hid hbody
  have HN := Lib.hid hN
  have HD := Lib.hid hD
  have SN := Lib.hid (show Src w [] [] 1 A nc.length (by8 nc) from Src.old hr)
  have SD := Lib.hid (show Src w [] [] 1 Ad bd.length (by8 bd) from Src.old hrd)
  have SB := Lib.hid (show Src w [] [] 1 (some ⟨bs, os, none⟩) B.length (by8 B) from Src.old hrb)
  have i1 : decide ((n : Int) < 0) = false := by simp
  have i2 : decide (65536 < (n : Int)) = false := by simp; omega
  have i3 : (n : Int) + 32 ≤ cs := by omega
  have i4 : (n : Int) ≤ 65536 := by omega
  have i5 : (0 : Int) ≤ n := by omega
  have i6 : (cs : Int) ≤ 9223372036854775807 := by omega
  obtain ⟨ok, hok⟩ : ∃ b, decide (T = R) = b := ⟨_, rfl⟩
  rw [hok] at HEQ ⊢
  clear hk hr hrd hrb hrd2 hN hD hT hTl hsT hbody hdrop hok
  have M0 := Lib.hid (Mst.start w)
  go_enter Try.func40, Try.ntmps40
  go_wp2_with fail
  refine (HCH.out _).mono ?_
  rintro e w1 ⟨rfl, rfl⟩
  clear HCH
  go_wp2_with fail
  generalize hw3 : World.alloc _ _ = w3
  obtain ⟨y3, m3, hp3⟩ := M0.out.ptsE [⟨A, c, nc⟩, ⟨Ad, cd, bd⟩, ⟨some ⟨bs, os, none⟩, n, B⟩] (List.forall3 SN.out SD.out SB.out) (by simp only [List.map_cons, List.map_nil, Pt.v, HN.out, HD.out, HBL.out]) (by simp) hw3
  have M3 := Lib.hid m3
  have HT3 := Lib.hid (HTG.out w3 _ 3 m3.bel hp3)
  clear m3 hp3 hw3
  refine HT3.out.mono ?_
  rintro e w4 ⟨rfl, hb4⟩
  have M4 := Lib.hid (((M3.out.below hb4).dropr).arr32 T)
  clear hb4 HT3 HTG SN SD SB
  go_upto_region 11 with (first | refine wpList_store_row rfl _ _ _ rfl w4.heap.size (b8a T) rfl rfl 119 _ (Bk.mk_ _ _ _) (info_k HTL.out) (y32_k HTL.out) (b8a_one T) ?_)
  obtain ⟨g4, hg4⟩ : ∃ g, w4.heap.size = g := ⟨_, rfl⟩
  rw [hg4] at M4 ⊢
  clear hg4
  generalize World.setRow _ _ _ = w5 at M4 ⊢
  have Mq := Lib.hid M4.out.drew
  have HRT := Lib.hid (show RB w5.drew w5.drew.heap.size (some ⟨g4, 0, none⟩) T from by have := Mq.out.src (Src.arr (t := 119) (List.mem_cons_self ..) HTL.out); unfold RB; rw [HTL.out]; exact this)
  have HEQ := Lib.hid (HEQ.out w5.drew g4 (cs - n) Mq.out.bel HRT.out)
  clear M4 HRT
  have j1 : (n : Int) ≤ (n : Int) + 32 := by omega
  have j2 : ¬ cs = n := by omega
  refine wp_region_held_drew (S := fun _ => True) (by kernel_rfl) ?_ (fun hHeld => ?_)
  · trivial
  generalize World.drew _ = w6 at Mq HEQ hHeld ⊢
  refine wpAnyH_take (i := 0) (v := ?_) rfl (by kernel_rfl) (by kernel_rfl) (by kernel_rfl) (fun _ _ _ h => h) (Or.inl ⟨by rfl, ?_⟩) (by assumption) ?_
  rotate_left
  · intro w hSw; (try dsimp only at hSw); go_split_ands; go_simp; with_reducible rfl
  change wpAnyH _ _ _ _ _ _ _ (Act.put _ (some 42) _) _
  simp only [Act.put, List.setIfInBounds_toArray, List.set_cons_zero, List.set_cons_succ, Array.toArray_toList]
  refine wpAnyH_take (i := 1) (v := ?_) rfl (by kernel_rfl) (by kernel_rfl) (by kernel_rfl) (fun _ _ _ h => h) (Or.inl ⟨by rfl, ?_⟩) (by assumption) ?_
  rotate_left
  · intro w hSw; (try dsimp only at hSw); go_split_ands; go_simp; with_reducible rfl
  change wpAnyH _ _ _ _ _ _ _ (Act.put _ (some 43) _) _
  simp only [Act.put, List.setIfInBounds_toArray, List.set_cons_zero, List.set_cons_succ, Array.toArray_toList]
  refine wpAnyH_take (i := 2) (v := ?_) rfl (by kernel_rfl) (by kernel_rfl) (by kernel_rfl) (fun _ _ _ h => h) (Or.inl ⟨by rfl, ?_⟩) (by assumption) ?_
  rotate_left
  · intro w hSw; (try dsimp only at hSw); go_split_ands; go_simp; with_reducible rfl
  change wpAnyH _ _ _ _ _ _ _ (Act.put _ (some 44) _) _
  simp only [Act.put, List.setIfInBounds_toArray, List.set_cons_zero, List.set_cons_succ, Array.toArray_toList]
  refine wpAnyH_take (i := 3) (v := ?_) rfl (by kernel_rfl) (by kernel_rfl) (by kernel_rfl) (fun _ _ _ h => h) (Or.inl ⟨by rfl, ?_⟩) (by assumption) ?_
  rotate_left
  · intro w hSw; (try dsimp only at hSw); go_split_ands; go_simp; with_reducible rfl
  change wpAnyH _ _ _ _ _ _ _ (Act.put _ (some 45) _) _
  simp only [Act.put, List.setIfInBounds_toArray, List.set_cons_zero, List.set_cons_succ, Array.toArray_toList]
  refine wpAnyH_ready (rs := [4]) (by kernel_rfl) (by simp) ?_
  refine (AllReadyH.cons rfl (fun K hK => ?_) AllReadyH.nil)
  go_simp
  (with_reducible refine HEQ.out.mono ?_); rintro e wq ⟨rfl, hb⟩; have Mq := Lib.hid (Mq.out.below hb); clear hb
  go_wp2_with fail
  refine hK.out _ _ (by first | assumption | go_keep) (fun hHeld => ?_)
  clear hK K
  refine wpAnyH_take (i := 5) (v := ?_) rfl (by kernel_rfl) (by kernel_rfl) (by kernel_rfl) (fun _ _ _ h => h) (Or.inl ⟨by rfl, ?_⟩) (by assumption) ?_
  rotate_left
  · intro w hSw; (try dsimp only at hSw); go_split_ands; go_simp; with_reducible rfl
  change wpAnyH _ _ _ _ _ _ _ (Act.put _ (some 47) _) _
  simp only [Act.put, List.setIfInBounds_toArray, List.set_cons_zero, List.set_cons_succ, Array.toArray_toList]
  refine wpAnyH_done (by kernel_rfl) ?_ _
  clear j1 j2 HEQ hHeld
  cases ok with
  | false =>
    go_wp2_with fail
    go_ret2
    exact ⟨rfl, Mq.out.bel⟩
  | true =>
    have HS2 := Lib.hid (HS.out _ Mq.out.bel)
    clear HS
    go_wp2_with fail
    refine HS2.out.mono ?_
    rintro e w7 ⟨A7, rfl, hb, hnb⟩
    have M7 := Lib.hid (Mq.out.below hb)
    have HT7 := Lib.hid (HTU.out _ w7 A7 M7.out.bel hnb)
    clear hb hnb HTU HS2
    go_wp2_with fail
    refine HT7.out.mono ?_
    rintro e w8 ⟨v, rfl, hf⟩
    have m8 := M7.out.addr hf
    obtain ⟨A8, c8, rfl, _⟩ := own_form (m8.row [])
    have HNB := Lib.hid ((NewB.of_own hf.own).base M7.out.bel.size)
    have HB8 := Lib.hid m8.bel
    clear hf m8 HT7
    go_wp2_with fail
    go_ret2
    exact ⟨A8, ⟨c8, rfl⟩, HB8.out, HNB.out⟩
end Go.Proofs.Ytiakgohipnbdbaa
