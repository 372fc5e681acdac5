/- Contract of the reference's Repair. -/
import Derived.Test.YtefncnmahimgpaaRows
import Derived.Test.YtefncnmahimgpaaBase
import Derived.Test.YtefncnmahimgpaaRow
import Derived.Test.YtefncnmahimgpaaURepP
import Derived.Test.YtefncnmahimgpaaURefEnc
import Derived.WalkKit
import Derived.OwnWalk
import Derived.WalkSpells
import Derived.WalkLawsBesides
import Derived.Lib.Hide
import Derived.Lib.ConvBytes
import Derived.Laws.IdiomStrings
import Derived.Deep.MidRow
import Derived.Deep.QuietTactic
import Derived.BigQuiet
import Derived.Outline
namespace Go.Proofs.Ytefncnmahimgpaa
open Go.RowKit

theorem renc_fffd (w : World) : Calls Try.prog 23 #[.int .i64 65533] w fun e w' => ∃ g cap, e = .returned (.slice (some ⟨g, 0, none⟩) 3 cap) ∧ Hid ((convert 38 9 (.slice (some ⟨g, 0, none⟩) 3 cap)).run Try.prog w' = .ok (.string ⟨#[239, 191, 189]⟩) w') ∧ Below w.heap.size w w' := by
  refine (rencode_any 65533 (by omega) w).mono ?_
  rintro e w1 ⟨g, cap, rfl, hc, b1⟩
  have e1 : encN 65533 = [239, 191, 189] := by decide +kernel
  rw [e1] at hc ⊢
  refine ⟨g, cap, rfl, Lib.hid ?_, b1⟩
  refine run_convert_bytes_back (P := Try.prog) w1 38 9 5 ⟨g, 0, none⟩ cap [239, 191, 189] Try.underlying38 Try.underlying5 Try.underlying9 (fun j hj => ?_)
  rw [Addr.add_mid, Nat.zero_add]
  have hj' : j < 3 := hj
  obtain rfl | rfl | rfl : j = 0 ∨ j = 1 ∨ j = 2 := by omega
  · exact hc 0 239 rfl
  · exact hc 1 191 rfl
  · exact hc 2 189 rfl

theorem skipAt_end {l : List UInt8} {k : Nat} (h2 : 2 ≤ k) (h4 : k ≤ 4) (h : k = 4 ∨ ¬ k ≤ l.length) : skipAt l 4 = skipAt l k := by
  obtain rfl | rfl | rfl : k = 2 ∨ k = 3 ∨ k = 4 := by omega
  · have hl : ¬ 2 ≤ l.length := by omega
    have e : qB l 2 = false := by unfold qB; rw [decide_eq_false hl]; rfl
    simp [skipAt, e]
  · have hl : ¬ 3 ≤ l.length := by omega
    have e : qB l 3 = false := by unfold qB; rw [decide_eq_false hl]; rfl
    simp [skipAt, e]
  · rfl
theorem skipAt_step (l : List UInt8) (k : Nat) (h : k = 2 ∨ k = 3) : skipAt l (k + 1) = if qB l k = true ∧ skipAt l k = k - 1 then k else skipAt l k := by
  rcases h with rfl | rfl
  · cases h : qB l 2 <;> simp [skipAt, h]
  · cases h : qB l 2 <;> cases h' : qB l 3 <;> simp [skipAt, h, h']
theorem skipAt_le (l : List UInt8) (k : Nat) : 1 ≤ skipAt l k ∧ skipAt l k ≤ 3 := by unfold skipAt; (repeat' split) <;> omega

set_option maxRecDepth 100000 in
set_option maxHeartbeats 3200000 in
theorem rrepair_any (s : ByteArray) (hs : s.size ≤ 1000000) (w : World) :
    Calls Try.prog 25 #[.string s] w fun e w' => e = .returned (.string ⟨(pRep s.data.toList 0).toArray⟩) ∧ Below w.heap.size w w' := by
  have HL : Hid (s.data.toList.length = s.size) := Lib.hid (by simp)
  go_enter Try.func25, Try.ntmps25
  go_wp2_with fail
  go_loopw [3, 4] (fun o i wr => ∃ (k : Nat) (acc : List UInt8), k ≤ s.size ∧ i = .int .i64 k ∧ o = .string ⟨acc.toArray⟩ ∧ Hid (acc ++ pRep s.data.toList k = pRep s.data.toList 0) ∧ acc.length ≤ 3 * k ∧ Below w.heap.size w wr) (fun _ i _ => s.size - (intOf i).toNat)
  case atStart => exact ⟨0, [], by omega, rfl, rfl, Lib.hid rfl, by simp, Below.refl _ _⟩
  case round =>
    obtain ⟨k, acc, hk, rfl, rfl, HP, hacc, hB⟩ := hrel
    have hsz := hB.size
    have hasz : (⟨acc.toArray⟩ : ByteArray).size = acc.length := by rw [ByteArray.size]; simp
    by_cases hlt : k < s.size
    · have hlti : (k : Int) < (s.size : Int) := by omega
      have HF0 := rfirst_any (s.extract k s.size) (by rw [ByteArray.size_extract]; omega)
      rw [drop_list, first_eq _ (by simp; omega)] at HF0
      have HF' := Lib.hid HF0
      have hok := @pFirst_ok (s.data.toList.drop k)
      have hsk := pSkip_pos (s.data.toList.drop k)
      have HE : Hid ((pFirst (s.data.toList.drop k)).2.2 ≠ 0 → pRep s.data.toList k = [239, 191, 189] ++ pRep s.data.toList (k + pSkip (s.data.toList.drop k))) := Lib.hid (fun h => pRep_err (by rw [HL.out]; exact hlt) h)
      have HO : Hid ((pFirst (s.data.toList.drop k)).2.2 = 0 → pRep s.data.toList k = (s.data.toList.drop k).take (pFirst (s.data.toList.drop k)).2.1 ++ pRep s.data.toList (k + (pFirst (s.data.toList.drop k)).2.1)) := Lib.hid (fun h => pRep_ok (by rw [HL.out]; exact hlt) h)
      have HSK := Lib.hid (skip_eq (s.data.toList.drop k) (by simp; omega))
      have hlen : (s.data.toList.drop k).length = s.size - k := by simp
      rw [hlen] at hok
      have HLD := Lib.hid hlen
      clear HF0 hlen
      have hpf : ∃ p, p = pFirst (s.data.toList.drop k) := ⟨_, rfl⟩
      obtain ⟨⟨r, n, e⟩, hp⟩ := hpf
      rw [← hp] at hok HF' HE HO
      clear hp
      dsimp only at hok HF' HE HO
      go_wp2_with fail
      refine (HF'.out _).mono ?_
      rintro e w1 ⟨rfl, b1⟩
      have c1 := hB.trans (b1.mono hsz)
      clear hB b1
      cases he : ((e : Int) == 0)
      · have h0 : e ≠ 0 := by simpa using he
        have HQ := Lib.hid (HE.out h0)
        have HAP : Hid ((⟨acc.toArray⟩ : ByteArray) ++ ⟨#[239, 191, 189]⟩ = ⟨(acc ++ [239, 191, 189]).toArray⟩) := Lib.hid (ba_append acc [239, 191, 189])
        have H1 := rbegins_any (s.extract k (k + 1)) (by rw [ByteArray.size_extract]; omega)
        rw [sub_list, show k + 1 - k = 1 by omega] at H1
        have HRS : Hid (rSkip (s.data.toList.drop k) = if (rBegins ((s.data.toList.drop k).take 1)).1 then skipAt (s.data.toList.drop k) 4 else 1) := Lib.hid rfl
        clear hok HE HO HF'
        generalize rBegins ((s.data.toList.drop k).take 1) = bq at *
        obtain ⟨ok1, n1, v1⟩ := bq
        dsimp only at H1 HRS
        have HB1 := Lib.hid H1
        clear H1
        go_wp2_with fail
        go_loopw [6, 8] (fun nv i wr => ∃ kk : Nat, 2 ≤ kk ∧ kk ≤ 4 ∧ i = .int .i64 kk ∧ nv = .int .i64 (skipAt (s.data.toList.drop k) kk) ∧ k + skipAt (s.data.toList.drop k) kk ≤ s.size ∧ Below w.heap.size w wr) (fun _ i _ => 4 - (intOf i).toNat)
        case atStart => exact ⟨2, by omega, by omega, rfl, rfl, by show k + 1 ≤ _; omega, c1⟩
        case round =>
          obtain ⟨kk, hk2, hk4, rfl, rfl, hsn, hB⟩ := hrel
          clear c1
          have hBs := hB.size
          have hnb := skipAt_le (s.data.toList.drop k) kk
          have hstep := fun h => skipAt_step (s.data.toList.drop k) kk h
          have HStep := Lib.hid hstep
          clear hstep
          by_cases hk3 : kk ≤ 3
          · have hk3i : (kk : Int) ≤ 3 := by omega
            by_cases hin : k + kk ≤ s.size
            · have hini : (k : Int) + (kk : Int) ≤ (s.size : Int) := by omega
              have H2 := rbegins_any (s.extract k (k + kk)) (by rw [ByteArray.size_extract]; omega)
              rw [sub_list, show k + kk - k = kk by omega] at H2
              have HG : Hid (qB (s.data.toList.drop k) kk = ((rBegins ((s.data.toList.drop k).take kk)).1 && decide (kk < (rBegins ((s.data.toList.drop k).take kk)).2.1))) := by
                apply Lib.hid
                unfold qB
                rw [HLD.out, decide_eq_true (show kk ≤ s.size - k by omega), Bool.true_and]
              generalize rBegins ((s.data.toList.drop k).take kk) = bk at *
              obtain ⟨ok, all, v⟩ := bk
              dsimp only at H2 HG
              have H2' := Lib.hid H2
              clear H2
              have HNX : Hid (skipAt (s.data.toList.drop k) (kk + 1) = if qB (s.data.toList.drop k) kk = true ∧ skipAt (s.data.toList.drop k) kk = kk - 1 then kk else skipAt (s.data.toList.drop k) kk) := Lib.hid (HStep.out (by omega))
              clear HStep
              generalize skipAt (s.data.toList.drop k) kk = nn at *
              go_wp2_with fail
              refine (H2'.out _).mono ?_
              rintro e w2 ⟨rfl, b2⟩
              have c2 := hB.trans (b2.mono hBs)
              clear hB b2 H2' hBs
              cases ok
              · have HN' : Hid (skipAt (s.data.toList.drop k) (kk + 1) = nn) := Lib.hid (by rw [HNX.out, HG.out]; simp)
                clear HNX HG
                go_wp2
                go_roundw
                case rel => exact ⟨kk + 1, by omega, by omega, by go_num, by rw [HN'.out], by rw [HN'.out]; exact hsn, c2⟩
                case measure => simp [intOf]; omega
              · by_cases hka : kk < all
                · have hkai : (kk : Int) < (all : Int) := by omega
                  by_cases hnk : nn = kk - 1
                  · have hnki : ((nn : Int) == (kk : Int) - 1) = true := by simp; omega
                    have HN' : Hid (skipAt (s.data.toList.drop k) (kk + 1) = kk) := Lib.hid (by rw [HNX.out, HG.out, if_pos ⟨by simp [hka], hnk⟩])
                    clear HNX HG hnk
                    go_wp2
                    go_roundw
                    case rel => exact ⟨kk + 1, by omega, by omega, by go_num, by rw [HN'.out], by rw [HN'.out]; omega, c2⟩
                    case measure => simp [intOf]; omega
                  · have hnki : ((nn : Int) == (kk : Int) - 1) = false := by simp; omega
                    have HN' : Hid (skipAt (s.data.toList.drop k) (kk + 1) = nn) := Lib.hid (by rw [HNX.out, if_neg (fun x => hnk x.2)])
                    clear HNX HG hnk
                    go_wp2
                    go_roundw
                    case rel => exact ⟨kk + 1, by omega, by omega, by go_num, by rw [HN'.out], by rw [HN'.out]; exact hsn, c2⟩
                    case measure => simp [intOf]; omega
                · have hkai : ¬ (kk : Int) < (all : Int) := by omega
                  have HN' : Hid (skipAt (s.data.toList.drop k) (kk + 1) = nn) := Lib.hid (by rw [HNX.out, HG.out]; simp [hka])
                  clear HNX HG
                  go_wp2
                  go_roundw
                  case rel => exact ⟨kk + 1, by omega, by omega, by go_num, by rw [HN'.out], by rw [HN'.out]; exact hsn, c2⟩
                  case measure => simp [intOf]; omega
            · have hini : ¬ (k : Int) + (kk : Int) ≤ (s.size : Int) := by omega
              have hend := skipAt_end (l := s.data.toList.drop k) hk2 hk4 (Or.inr (by rw [HLD.out]; omega))
              have HF : Hid ((ok1 = false → (acc ++ [239, 191, 189]) ++ pRep s.data.toList (k + 1) = pRep s.data.toList 0) ∧ (ok1 = true → (acc ++ [239, 191, 189]) ++ pRep s.data.toList (k + skipAt (s.data.toList.drop k) kk) = pRep s.data.toList 0)) := by
                refine Lib.hid ⟨fun h => ?_, fun h => ?_⟩
                · have e1 := HRS.out
                  rw [h, HSK.out] at e1
                  have e2 := HQ.out
                  rw [e1] at e2
                  rw [List.append_assoc, ← HP.out, e2]; rfl
                · have e1 := HRS.out
                  rw [h, HSK.out, hend] at e1
                  have e2 := HQ.out
                  rw [e1] at e2
                  rw [List.append_assoc, ← HP.out, e2]; rfl
              clear hend
              generalize skipAt (s.data.toList.drop k) kk = nn at *
              clear HStep
              go_wp2_with fail
              refine (HB1.out _).mono ?_
              rintro e w3 ⟨rfl, b3⟩
              have c3 := hB.trans (b3.mono hBs)
              clear hB b3 hBs
              cases ok1
              · have HZ := Lib.hid (HF.out.1 rfl)
                go_wp2_with fail
                refine (renc_fffd _).mono ?_
                rintro e w4 ⟨g, cap, rfl, hcv, b4⟩
                have c4 := c3.trans (b4.mono c3.size)
                clear c3 b4
                have hcv' := hcv.out
                go_wp2
                go_roundw
                case rel => exact ⟨k + 1, acc ++ [239, 191, 189], by omega, by go_num, by rw [HAP.out], HZ, by simp; omega, c4⟩
                case measure => simp [intOf]; omega
              · have HZ := Lib.hid (HF.out.2 rfl)
                go_wp2_with fail
                refine (renc_fffd _).mono ?_
                rintro e w4 ⟨g, cap, rfl, hcv, b4⟩
                have c4 := c3.trans (b4.mono c3.size)
                clear c3 b4
                have hcv' := hcv.out
                go_wp2
                go_roundw
                case rel => exact ⟨k + nn, acc ++ [239, 191, 189], by omega, by go_num, by rw [HAP.out], HZ, by simp; omega, c4⟩
                case measure => simp [intOf]; omega
          · have hk3i : ¬ (kk : Int) ≤ 3 := by omega
            have hend := skipAt_end (l := s.data.toList.drop k) hk2 hk4 (Or.inl (by omega))
            have HF : Hid ((ok1 = false → (acc ++ [239, 191, 189]) ++ pRep s.data.toList (k + 1) = pRep s.data.toList 0) ∧ (ok1 = true → (acc ++ [239, 191, 189]) ++ pRep s.data.toList (k + skipAt (s.data.toList.drop k) kk) = pRep s.data.toList 0)) := by
              refine Lib.hid ⟨fun h => ?_, fun h => ?_⟩
              · have e1 := HRS.out
                rw [h, HSK.out] at e1
                have e2 := HQ.out
                rw [e1] at e2
                rw [List.append_assoc, ← HP.out, e2]; rfl
              · have e1 := HRS.out
                rw [h, HSK.out, hend] at e1
                have e2 := HQ.out
                rw [e1] at e2
                rw [List.append_assoc, ← HP.out, e2]; rfl
            clear hend
            generalize skipAt (s.data.toList.drop k) kk = nn at *
            clear HStep
            go_wp2_with fail
            refine (HB1.out _).mono ?_
            rintro e w3 ⟨rfl, b3⟩
            have c3 := hB.trans (b3.mono hBs)
            clear hB b3 hBs
            cases ok1
            · have HZ := Lib.hid (HF.out.1 rfl)
              go_wp2_with fail
              refine (renc_fffd _).mono ?_
              rintro e w4 ⟨g, cap, rfl, hcv, b4⟩
              have c4 := c3.trans (b4.mono c3.size)
              clear c3 b4
              have hcv' := hcv.out
              go_wp2
              go_roundw
              case rel => exact ⟨k + 1, acc ++ [239, 191, 189], by omega, by go_num, by rw [HAP.out], HZ, by simp; omega, c4⟩
              case measure => simp [intOf]; omega
            · have HZ := Lib.hid (HF.out.2 rfl)
              go_wp2_with fail
              refine (renc_fffd _).mono ?_
              rintro e w4 ⟨g, cap, rfl, hcv, b4⟩
              have c4 := c3.trans (b4.mono c3.size)
              clear c3 b4
              have hcv' := hcv.out
              go_wp2
              go_roundw
              case rel => exact ⟨k + nn, acc ++ [239, 191, 189], by omega, by go_num, by rw [HAP.out], HZ, by simp; omega, c4⟩
              case measure => simp [intOf]; omega
      · have h0 : e = 0 := by simpa using he
        have hn := hok h0
        have HQ := Lib.hid (HO.out h0)
        have hnk : k + n ≤ s.size := by omega
        have hlx : (s.extract k (k + n)).size = n := by rw [ByteArray.size_extract]; omega
        have HS : Hid ((⟨acc.toArray⟩ : ByteArray) ++ s.extract k (k + n) = ⟨(acc ++ (s.data.toList.drop k).take n).toArray⟩) := by
          apply Lib.hid
          have e1 : s.extract k (k + n) = ⟨((s.data.toList.drop k).take n).toArray⟩ := by
            rw [ba_of (s.extract k (k + n)), sub_list, show k + n - k = n by omega]
          rw [e1, ba_append]
        clear hok HE HO HF'
        go_wp2
        go_roundw
        case rel => exact ⟨k + n, acc ++ (s.data.toList.drop k).take n, by omega, by go_num, by rw [HS.out], Lib.hid (by rw [List.append_assoc, ← HQ.out, HP.out]), by rw [List.length_append, List.length_take]; omega, c1⟩
        case measure => simp [intOf]; omega
    · have hlti : ¬ (k : Int) < (s.size : Int) := by omega
      have HQ : Hid (pRep s.data.toList 0 = acc) := Lib.hid (by rw [← HP.out, pRep_end (by rw [HL.out]; exact hlt), List.append_nil])
      go_wp2
      go_ret
      rw [HQ.out]
      exact ⟨rfl, hB⟩
end Go.Proofs.Ytefncnmahimgpaa
