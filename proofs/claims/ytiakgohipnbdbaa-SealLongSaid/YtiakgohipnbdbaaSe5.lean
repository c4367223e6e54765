/- Package seal: contract of Seal. -/
import Derived.Test.YtiakgohipnbdbaaSe2
import Derived.Test.YtiakgohipnbdbaaSe3
import Derived.Test.YtiakgohipnbdbaaSe4
namespace Go.Proofs.Ytiakgohipnbdbaa
set_option linter.unusedVariables false
set_option linter.unusedSimpArgs false
open Go.RowKit

def sTag (kb nc bd body : List UInt8) : List UInt8 := macT (bindK kb) (frameB [nc, bd, body])
theorem sTag_len (kb nc bd body : List UInt8) : (sTag kb nc bd body).length = 32 := rfl
def bodyB (kb nc b : List UInt8) : List UInt8 := trn b (strB (hideK kb) nc b.length)
theorem bodyB_len (kb nc b : List UInt8) : (bodyB kb nc b).length = b.length := trn_len (by rw [strB_len]; exact Nat.le_refl _)
def sealB (kb nc bd b : List UInt8) : List UInt8 := bodyB kb nc b ++ sTag kb nc bd (bodyB kb nc b)
theorem sealB_len (kb nc bd b : List UInt8) : (sealB kb nc bd b).length = b.length + 32 := by rw [sealB, List.length_append, bodyB_len, sTag_len]

/-- Where the key, the nonce, or the length is not right. -/
theorem seal_no (w : World) (p : Value) (A : Option Addr) (N c : Nat) (v2 : Value) (Ab : Option Addr) (n cb : Nat) (ee : Int)
    (hs : ∀ w, Calls Try.prog 45 #[p, .slice A N c, .int .i64 (n : Int)] w fun e w' => e = .returned (.tuple #[.slice none 0 0, .int .i64 ee]) ∧ w = w') (hE : (ee != 0) = true) :
    Calls Try.prog 44 #[p, .slice A N c, v2, .slice Ab n cb] w fun e w' => e = .returned (.tuple #[.slice none 0 0, .int .i64 ee]) ∧ w = w' := by
  have HS := Lib.hid hs
  clear hs
  go_enter Try.func44, Try.ntmps44
  go_wp2_with fail
  refine (HS.out _).mono ?_
  rintro e w1 ⟨rfl, rfl⟩
  go_wp2
  go_ret2
  exact ⟨rfl, rfl⟩

set_option maxRecDepth 100000 in
set_option maxHeartbeats 1600000 in
theorem seal_any (w : World) (gk : Nat) (kb : List UInt8) (hk : KeyW w gk kb) (hkl : kb.length ≤ 1000) (A : Option Addr) (c : Nat) (nc : List UInt8) (hr : RB w w.heap.size A nc) (hn : nc.length ≤ 32)
    (Ad : Option Addr) (cd : Nat) (bd : List UInt8) (hrd : RB w w.heap.size Ad bd) (hnd : bd.length ≤ 1000) (Ab : Option Addr) (cb : Nat) (b : List UInt8) (hrb : RB w w.heap.size Ab b) (hnb : b.length ≤ 65536) :
    Calls Try.prog 44 #[.pointer (some ⟨gk, 0, none⟩), .slice A nc.length c, .slice Ad bd.length cd, .slice Ab b.length cb] w fun e w' => ∃ A' c', e = .returned (.tuple #[.slice A' (b.length + 32) c', .int .i64 0]) ∧ b.length + 32 ≤ c' ∧ c' ≤ 9223372036854775807 ∧ Below w.heap.size w w' ∧ NewB w w' A' (sealB kb nc bd b) := by
  have HS := Lib.hid (stream_any w gk kb hk hkl A c nc hr hn b.length hnb)
  have HTU := Lib.hid (show ∀ w' A', Below w.heap.size w w' → NewB w w' A' (strB (hideK kb) nc b.length) → Calls Try.prog 71 #[.slice Ab b.length cb, .slice A' b.length b.length] w' (RetFresh w' 5 1 b.length (by8 (bodyB kb nc b))) from fun w' A' hb hnb' => by
    have := turned_any2 w' Ab cb b (hrb.keep hb) A' b.length _ hnb'.rb (by rw [strB_len]; exact Nat.le_refl _) (by omega)
    rw [strB_len] at this
    exact this)
  have hbl := bodyB_len kb nc b
  obtain ⟨ST, hST⟩ : ∃ l, strB (hideK kb) nc b.length = l := ⟨_, rfl⟩
  have hSE : sealB kb nc bd b = bodyB kb nc b ++ sTag kb nc bd (bodyB kb nc b) := rfl
  obtain ⟨SE, hSE2⟩ : ∃ l, sealB kb nc bd b = l := ⟨_, rfl⟩
  have hSEL : SE.length = b.length + 32 := by rw [← hSE2]; exact sealB_len _ _ _ _
  rw [hSE2] at hSE ⊢
  have hsT : ∀ B, sTag kb nc bd B = macT (bindK kb) (frameB [nc, bd, B]) := fun B => rfl
  obtain ⟨B, hB⟩ : ∃ l, bodyB kb nc b = l := ⟨_, rfl⟩
  rw [hB] at hbl hSE HTU
  rw [hST] at HS HTU
  obtain ⟨T, hT⟩ : ∃ l, sTag kb nc bd B = l := ⟨_, rfl⟩
  have hTl : T.length = 32 := by rw [← hT]; rfl
  rw [hT] at hSE
  have hT2 := hsT B
  rw [hT] at hT2
  obtain ⟨N, hN⟩ : ∃ n, nc.length = n := ⟨_, rfl⟩
  obtain ⟨D, hD⟩ : ∃ n, bd.length = n := ⟨_, rfl⟩
  obtain ⟨n, hNb⟩ : ∃ n, b.length = n := ⟨_, rfl⟩
  rw [hNb] at HS HTU hbl hnb hSEL ⊢
  rw [hN] at HS hn ⊢
  rw [hD] at hnd ⊢
  have HTG := Lib.hid (show ∀ w' A' c' Av cv, Below w.heap.size w w' → Pts w' A' [⟨A, c, nc⟩, ⟨Ad, cd, bd⟩, ⟨Av, cv, B⟩] → Calls Try.prog 70 #[.pointer (some ⟨gk, 0, none⟩), .slice A' 3 c'] w' fun e w2 => e = .returned (.agg (b8a T)) ∧ Below w'.heap.size w' w2 from fun w' A' c' Av cv hb hp => by
    have := stag_any w' gk kb (hk.keep hb) hkl A' c' _ hp (by simp) (List.forall3 (by show nc.length ≤ _; omega) (by show bd.length ≤ _; omega) (by show B.length ≤ _; omega))
    rw [show List.map Pt.l [(⟨A, c, nc⟩ : Pt), ⟨Ad, cd, bd⟩, ⟨Av, cv, B⟩] = [nc, bd, B] from rfl, ← hT2] at this
    exact this)
  have HCC := Lib.hid (show ∀ w' A' c' Av cv g, Pts w' A' [⟨Av, cv, B⟩, ⟨some ⟨g, 0, none⟩, 32, T⟩] → Calls Try.prog 74 #[.slice A' 2 c'] w' (RetFresh w' 5 1 (n + 32) (by8 SE)) from fun w' A' c' Av cv g hp => by
    have hc : catP [(⟨Av, cv, B⟩ : Pt), ⟨some ⟨g, 0, none⟩, 32, T⟩] = SE := by rw [hSE]; simp [catP]
    have := concat_any w' A' c' _ hp (by simp) (by rw [hc, hSEL]; omega)
    rw [hc, hSEL] at this
    exact this)
  have HTL := Lib.hid hTl
  have HBL := Lib.hid hbl
  have HN := Lib.hid hN
  have HD := Lib.hid hD
  have SN := Lib.hid (show Src w [] [] 1 A nc.length (by8 nc) from Src.old hr)
  have SD := Lib.hid (show Src w [] [] 1 Ad bd.length (by8 bd) from Src.old hrd)
  clear hk hr hrd hrb hN hD hNb hT hT2 hTl hsT hSE hSE2 hSEL hB hST hbl
  go_enter Try.func44, Try.ntmps44
  go_wp2_with fail
  refine HS.out.mono ?_
  rintro e w1 ⟨A1, rfl, hb1, nb1⟩
  have HT1 := Lib.hid (HTU.out w1 A1 hb1 nb1)
  have M1 := Lib.hid ((Mst.start w).below hb1)
  clear hb1 nb1 HS HTU
  go_wp2_with fail
  refine HT1.out.mono ?_
  rintro e w2 ⟨v, rfl, hf⟩
  have m2 := M1.out.addr hf
  obtain ⟨Av, cv, rfl, _⟩ := own_form (m2.row [])
  have M2 := Lib.hid m2
  have SB := Lib.hid (show Src w [] [⟨5, 1, .slice Av n cv, n, by8 B⟩] 1 Av B.length (by8 B) from by rw [HBL.out]; exact m2.rowSrc (e := 5) (c := cv) (List.mem_cons_self ..))
  clear hf m2 HT1
  go_wp2_with fail
  generalize hw3 : World.alloc w2 _ = w3
  obtain ⟨y3, m3, hp3⟩ := M2.out.ptsE [⟨A, c, nc⟩, ⟨Ad, cd, bd⟩, ⟨Av, cv, B⟩] (List.forall3 (SN.out.sub (fun _ h => h) (fun _ h => nomatch h)) (SD.out.sub (fun _ h => h) (fun _ h => nomatch h)) SB.out) (by simp only [List.map_cons, List.map_nil, Pt.v, HN.out, HD.out, HBL.out]) (by simp) hw3
  have M3 := Lib.hid m3
  have HT3 := Lib.hid (HTG.out w3 _ 3 _ _ m3.bel hp3)
  clear m3 hp3 hw3
  refine HT3.out.mono ?_
  rintro e w4 ⟨rfl, hb4⟩
  have M4 := Lib.hid (((M3.out.below hb4).dropr).arr32 T)
  clear hb4 HT3
  go_wp2_with (first | refine wpList_store_row rfl _ _ _ rfl w4.heap.size (b8a T) rfl rfl 119 _ (Bk.mk_ _ _ _) (info_k HTL.out) (y32_k HTL.out) (b8a_one T) ?_)
  generalize hw5 : World.alloc _ _ = w5
  obtain ⟨y5, m5, hp5⟩ := Mst.ptsG (w4.heap.size + 1) (by simp) M4.out [⟨Av, cv, B⟩, ⟨some ⟨w4.heap.size, 0, none⟩, 32, T⟩] (List.forall2 (SB.out.sub (fun _ h => nomatch h) (fun _ h => h)) (Src.arr (List.mem_cons_self ..) rfl)) (by simp only [List.map_cons, List.map_nil, Pt.v, HTL.out, HBL.out]) (by simp) hw5
  have M5 := Lib.hid m5
  have HC5 := Lib.hid (HCC.out w5 _ 2 _ _ _ hp5)
  clear m5 hp5 hw5
  refine HC5.out.mono ?_
  rintro e w6 ⟨v, rfl, hf⟩
  have m6 := M5.out.addr hf
  obtain ⟨A6, c6, rfl, _, _, hc6, hg6⟩ := own_form (m6.row [])
  have HF6 := Lib.hid hf
  have hc7 : c6 ≤ 9223372036854775807 := by
    rcases hf.own.2 with ⟨h1, h2⟩ | ⟨g, cap, cur, h1, _, _, _, h5, _⟩
    · omega
    · injection h1 with _ _ h1
      unfold maxLen at h5
      omega
  have M6 := Lib.hid m6
  have HNB := Lib.hid ((NewB.of_own hf.own).base M5.out.bel.size)
  clear hf m6 hg6
  go_wp2_with fail
  go_ret2
  exact ⟨A6, c6, rfl, hc6, hc7, M6.out.bel, HNB.out⟩
end Go.Proofs.Ytiakgohipnbdbaa
