/- Contract of utf8.Repair. -/
import Derived.Test.YtefncnmahimgpaaRows
import Derived.Test.YtefncnmahimgpaaBase
import Derived.Test.YtefncnmahimgpaaRow
import Derived.Test.YtefncnmahimgpaaBuilderS
import Derived.Test.YtefncnmahimgpaaUCheck
import Derived.Test.YtefncnmahimgpaaUEnc
import Derived.WalkKit
import Derived.OwnWalk
import Derived.WalkSpells
import Derived.WalkLawsBesides
import Derived.Lib.Hide
import Derived.Deep.QuietTactic
import Derived.BigQuiet
import Derived.Outline
namespace Go.Proofs.Ytefncnmahimgpaa
open Go.RowKit

theorem isB {T e : TypeId} {B b : Nat} {bs : List Value} {w : World} (h : Lib.BuilderAt T e B b (.pointer (some ⟨b, 0, none⟩)) bs w) : Lib.IsBuilder T e B b bs w := Or.inr h

theorem builder_below {T e : TypeId} {B b : Nat} {bs : List Value} {w w' : World} (h : Lib.IsBuilder T e B b bs w) (hb : Below w.heap.size w w') : Lib.IsBuilder T e B b bs w' := by
  have go : ∀ p, Lib.BuilderAt T e B b p bs w → Lib.BuilderAt T e B b p bs w' := by
    rintro p ⟨hB, v, hv, ⟨hl, ho⟩, hn⟩
    have hlt := (Array.getElem?_eq_some_iff.1 hv).1
    refine ⟨hB, v, (hb.block b hlt).trans hv, ⟨hl, ?_⟩, hn⟩
    rcases ho with ho | ⟨g, cap, cur, h1, h2, h3, h4⟩
    · exact Or.inl ho
    · exact Or.inr ⟨g, cap, cur, h1, h2, (hb.block g (Array.getElem?_eq_some_iff.1 h3).1).trans h3, h4⟩
  exact h.imp (go _) (go _)
theorem sub_list (s : ByteArray) (a b : Nat) : (s.extract a b).data.toList = (s.data.toList.drop a).take (b - a) := by
  simp
/-- does Repair take one byte more than n? -/
def goOn (l : List UInt8) (n : Nat) : Bool := decide (n < 4) && (decide (n < l.length) && ((pBegins (l.take (n + 1))).2 && decide (n + 1 < (pBegins (l.take (n + 1))).1)))
/-- the number of the bytes that one replacement stands for -/
def pSkip (l : List UInt8) : Nat := if goOn l 1 then (if goOn l 2 then (if goOn l 3 then 4 else 3) else 2) else 1
theorem pSkip_pos (l : List UInt8) : 1 ≤ pSkip l ∧ pSkip l ≤ 4 := by unfold pSkip; (repeat' split) <;> omega
/-- all places from 1 to below n go on -/
def AllOn (l : List UInt8) (n : Nat) : Prop := ∀ m, 1 ≤ m → m < n → goOn l m = true
theorem pSkip_of {l : List UInt8} {n : Nat} (h1 : 1 ≤ n) (h4 : n ≤ 4) (ha : AllOn l n) (hn : goOn l n = false) : pSkip l = n := by
  obtain rfl | rfl | rfl | rfl : n = 1 ∨ n = 2 ∨ n = 3 ∨ n = 4 := by omega
  · simp [pSkip, hn]
  · simp [pSkip, hn, ha 1 (by omega) (by omega)]
  · simp [pSkip, hn, ha 1 (by omega) (by omega), ha 2 (by omega) (by omega)]
  · simp [pSkip, ha 1 (by omega) (by omega), ha 2 (by omega) (by omega), ha 3 (by omega) (by omega)]

/-- what Repair lays from a place on -/
def pRep (l : List UInt8) (at' : Nat) : List UInt8 :=
  if _h : at' < l.length then
    if _h2 : (pFirst (l.drop at')).2.2 = 0 ∧ 0 < (pFirst (l.drop at')).2.1 then (l.drop at').take (pFirst (l.drop at')).2.1 ++ pRep l (at' + (pFirst (l.drop at')).2.1)
    else [239, 191, 189] ++ pRep l (at' + max 1 (pSkip (l.drop at')))
  else []
termination_by l.length - at'
decreasing_by all_goals omega
theorem pRep_end {l : List UInt8} {k : Nat} (h : ¬ k < l.length) : pRep l k = [] := by rw [pRep, dif_neg h]
theorem pRep_err {l : List UInt8} {k : Nat} (h : k < l.length) (h2 : (pFirst (l.drop k)).2.2 ≠ 0) : pRep l k = [239, 191, 189] ++ pRep l (k + pSkip (l.drop k)) := by
  rw [pRep, dif_pos h, dif_neg (fun x => h2 x.1), Nat.max_eq_right (pSkip_pos _).1]
theorem pRep_ok {l : List UInt8} {k : Nat} (h : k < l.length) (h2 : (pFirst (l.drop k)).2.2 = 0) :
    pRep l k = (l.drop k).take (pFirst (l.drop k)).2.1 ++ pRep l (k + (pFirst (l.drop k)).2.1) := by
  rw [pRep, dif_pos h, dif_pos ⟨h2, (pFirst_ok h2).1⟩]

set_option maxRecDepth 100000 in
set_option maxHeartbeats 3200000 in
theorem repair_any (s : ByteArray) (hs : s.size ≤ 1000000) (w : World) :
    Calls Try.prog 24 #[.string s] w fun e w' => e = .returned (.string ⟨(pRep s.data.toList 0).toArray⟩) ∧ Below w.heap.size w w' := by
  have HL : Hid (s.data.toList.length = s.size) := Lib.hid (by simp)
  have hE : pEnc 65533 = (⟨#[239, 191, 189]⟩, 0) := by kernel_rfl
  have HE := encode_any 65533
  rw [hE] at HE
  have HE' := Lib.hid HE
  clear HE hE
  have hI0 := Lib.fresh_isBuilder 71 5 w
  have hb0 := (Below.refl w.heap.size w).alloc (Nat.le_refl _) (.cells #[.pointer none, .slice none 0 0] 71)
  go_enter Try.func24, Try.ntmps24
  go_wp2_with fail
  refine (HE'.out _).mono ?_
  rintro e w1 ⟨rfl, b1⟩
  have hI1 := builder_below hI0 b1
  have hb1 := hb0.trans (b1.mono hb0.size)
  clear hI0 hb0 b1
  go_wp2_with fail
  go_loopw [6] (fun i wr => ∃ (k : Nat) (acc : List UInt8), k ≤ s.size ∧ i = .int .i64 k ∧ Hid (acc ++ pRep s.data.toList k = pRep s.data.toList 0) ∧ acc.length ≤ 3 * k ∧ Lib.IsBuilder 71 5 w.heap.size w.heap.size (Lib.byteCells acc) wr ∧ Below w.heap.size w wr) (fun i _ => s.size - (intOf i).toNat)
  case atStart => exact ⟨0, [], by omega, rfl, Lib.hid rfl, by simp, hI1, hb1⟩
  case round =>
    obtain ⟨k, acc, hk, rfl, HP, hacc, hI, hB⟩ := hrel
    clear hI1 hb1
    have hsz := hB.size
    by_cases hlt : k < s.size
    · have hlti : (k : Int) < (s.size : Int) := by omega
      have HF := first_any (s.extract k s.size) (by rw [ByteArray.size_extract]; omega) (by rw [ByteArray.size_extract]; unfold maxLen; omega)
      rw [drop_list] at HF
      have HF' := Lib.hid HF
      have hok := @pFirst_ok (s.data.toList.drop k)
      have HE : Hid ((pFirst (s.data.toList.drop k)).2.2 ≠ 0 → pRep s.data.toList k = [239, 191, 189] ++ pRep s.data.toList (k + pSkip (s.data.toList.drop k))) := Lib.hid (fun h => pRep_err (by rw [HL.out]; exact hlt) h)
      have HO : Hid ((pFirst (s.data.toList.drop k)).2.2 = 0 → pRep s.data.toList k = (s.data.toList.drop k).take (pFirst (s.data.toList.drop k)).2.1 ++ pRep s.data.toList (k + (pFirst (s.data.toList.drop k)).2.1)) := Lib.hid (fun h => pRep_ok (by rw [HL.out]; exact hlt) h)
      have hlen : (s.data.toList.drop k).length = s.size - k := by simp
      rw [hlen] at hok
      have HLD := Lib.hid hlen
      clear HF hlen
      have hpf : ∃ p, p = pFirst (s.data.toList.drop k) := ⟨_, rfl⟩
      obtain ⟨⟨r, n, e⟩, hp⟩ := hpf
      rw [← hp] at hok HF' HE HO
      clear hp
      dsimp only at hok HF' HE HO
      go_wp2_with fail
      refine (HF'.out _).mono ?_
      rintro e w1 ⟨rfl, b1⟩
      have c1 := hB.trans (b1.mono hsz)
      have hI2 := builder_below hI b1
      clear hI hB b1
      cases he : ((e : Int) == 0)
      · have h0 : e ≠ 0 := by simpa using he
        have HQ := Lib.hid (HE.out h0)
        clear hok HE HO HF'
        go_wp2_with fail
        refine (Try.writeString w.heap.size w.heap.size _ ⟨#[239, 191, 189]⟩ _ hI2 (by rw [Lib.byteCells_length]; show acc.length + 3 ≤ _; omega) (by exact c1.size)).mono ?_
        rintro e W1 ⟨rfl, h1, b1⟩
        have hI3 := isB h1
        have c2 := c1.trans b1
        clear h1 b1 c1 hI2
        go_wp2_with fail
        have hs2 := c2.size
        go_loopw [10] (fun i wr => ∃ n : Nat, 1 ≤ n ∧ n ≤ 4 ∧ k + n ≤ s.size ∧ i = .int .i64 n ∧ AllOn (s.data.toList.drop k) n ∧ Lib.IsBuilder 71 5 w.heap.size w.heap.size (Lib.byteCells acc ++ Lib.strCells ⟨#[239, 191, 189]⟩) wr ∧ Below w.heap.size w wr) (fun i _ => 4 - (intOf i).toNat)
        case atStart => exact ⟨1, by omega, by omega, by omega, rfl, fun m h1 h2 => by omega, hI3, c2⟩
        case round =>
          obtain ⟨n, hn1, hn4, hns, rfl, hA, hI4, hB⟩ := hrel
          clear hI3 c2
          have hBs := hB.size
          have HX : Hid (goOn (s.data.toList.drop k) n = false → (acc ++ [239, 191, 189]) ++ pRep s.data.toList (k + n) = pRep s.data.toList 0) := by
            refine Lib.hid (fun h => ?_)
            have e1 := pSkip_of hn1 hn4 hA h
            have e2 := HQ.out
            rw [e1] at e2
            rw [List.append_assoc, ← e2, HP.out]
          have hE3 : Lib.byteCells acc ++ Lib.strCells ⟨#[239, 191, 189]⟩ = Lib.byteCells (acc ++ [239, 191, 189]) := by rw [Lib.byteCells_append, Lib.strCells_eq]
          by_cases h4 : n < 4
          · have h4i : (n : Int) < 4 := by omega
            by_cases hin : k + n < s.size
            · have hini : (k : Int) + (n : Int) < (s.size : Int) := by omega
              have hle : (k : Int) + (n : Int) + 1 ≤ (s.size : Int) := by omega
              have hsx : (s.extract k (k + n + 1)).size = n + 1 := by rw [ByteArray.size_extract]; omega
              have HBG := begins_any (s.extract k (k + n + 1)) (by omega) (by unfold maxLen; omega)
              rw [sub_list, show k + n + 1 - k = n + 1 by omega] at HBG
              have HG : Hid (goOn (s.data.toList.drop k) n = ((pBegins ((s.data.toList.drop k).take (n + 1))).2 && decide (n + 1 < (pBegins ((s.data.toList.drop k).take (n + 1))).1))) := by
                apply Lib.hid
                unfold goOn
                rw [HLD.out, decide_eq_true h4, decide_eq_true (show n < s.size - k by omega), Bool.true_and, Bool.true_and]
              have HB' := Lib.hid HBG
              clear HBG hsx
              generalize pBegins ((s.data.toList.drop k).take (n + 1)) = pb at *
              obtain ⟨sz, ok⟩ := pb
              dsimp only at HB' HG
              go_wp2_with fail
              refine (HB'.out _).mono ?_
              rintro e W2 ⟨rfl, b2⟩
              have c2 := hB.trans (b2.mono hBs)
              have hI5 := builder_below hI4 b2
              rw [hE3] at hI5
              clear hI4 hB b2 HB' hBs
              cases ok
              · have HZ := Lib.hid (HX.out (by rw [HG.out]; rfl))
                clear HX HG
                go_wp2
                go_roundw
                case rel => exact ⟨k + n, acc ++ [239, 191, 189], hns, by go_num, HZ, by simp; omega, hI5, c2⟩
                case measure => simp [intOf]; omega
              · by_cases hge : n + 1 < sz
                · have hgi : ¬ (sz : Int) ≤ (n : Int) + 1 := by omega
                  have hA' : AllOn (s.data.toList.drop k) (n + 1) := by
                    intro m h1 h2
                    by_cases hm : m = n
                    · rw [hm, HG.out]; simp [hge]
                    · exact hA m h1 (by omega)
                  rw [← hE3] at hI5
                  clear HX HG hA
                  go_wp2
                  go_roundw
                  case rel => exact ⟨n + 1, by omega, by omega, by omega, by go_num, hA', hI5, c2⟩
                  case measure => simp [intOf]; omega
                · have hgi : (sz : Int) ≤ (n : Int) + 1 := by omega
                  have HZ := Lib.hid (HX.out (by rw [HG.out]; simp [hge]))
                  clear HX HG
                  go_wp2
                  go_roundw
                  case rel => exact ⟨k + n, acc ++ [239, 191, 189], hns, by go_num, HZ, by simp; omega, hI5, c2⟩
                  case measure => simp [intOf]; omega
            · have hini : ¬ (k : Int) + (n : Int) < (s.size : Int) := by omega
              have HZ := Lib.hid (HX.out (by unfold goOn; rw [HLD.out, decide_eq_false (show ¬ n < s.size - k by omega)]; simp))
              rw [hE3] at hI4
              clear HX
              go_wp2
              go_roundw
              case rel => exact ⟨k + n, acc ++ [239, 191, 189], hns, by go_num, HZ, by simp; omega, hI4, hB⟩
              case measure => simp [intOf]; omega
          · have h4i : ¬ (n : Int) < 4 := by omega
            have HZ := Lib.hid (HX.out (by unfold goOn; rw [decide_eq_false h4]; rfl))
            rw [hE3] at hI4
            clear HX
            go_wp2
            go_roundw
            case rel => exact ⟨k + n, acc ++ [239, 191, 189], hns, by go_num, HZ, by simp; omega, hI4, hB⟩
            case measure => simp [intOf]; omega
      · have h0 : e = 0 := by simpa using he
        have hn := hok h0
        have HQ := Lib.hid (HO.out h0)
        have hnk : k + n ≤ s.size := by omega
        have hlx : (s.extract k (k + n)).size = n := by rw [ByteArray.size_extract]; omega
        have HS : Hid (Lib.strCells (s.extract k (k + n)) = Lib.byteCells ((s.data.toList.drop k).take n)) := Lib.hid (by rw [Lib.strCells_eq, sub_list]; congr 2; omega)
        have HLX := Lib.hid hlx
        clear hok HE HO HF' hlx
        go_wp2_with fail
        refine (Try.writeString w.heap.size w.heap.size _ (s.extract k (k + n)) _ hI2 (by rw [Lib.byteCells_length, HLX.out]; omega) (by exact c1.size)).mono ?_
        rintro e W1 ⟨rfl, h1, b1⟩
        have hI3 := isB h1
        have c2 := c1.trans b1
        rw [HS.out, ← Lib.byteCells_append] at hI3
        clear h1 b1 c1 hI2
        go_wp2
        go_roundw
        case rel => exact ⟨k + n, acc ++ (s.data.toList.drop k).take n, by omega, by go_num, Lib.hid (by rw [List.append_assoc, ← HQ.out, HP.out]), by rw [List.length_append, List.length_take]; omega, hI3, c2⟩
        case measure => simp [intOf]; omega
    · have hlti : ¬ (k : Int) < (s.size : Int) := by omega
      have HQ : Hid (pRep s.data.toList 0 = acc) := Lib.hid (by rw [← HP.out, pRep_end (by rw [HL.out]; exact hlt), List.append_nil])
      go_wp2_with fail
      refine (Try.builderString w.heap.size w.heap.size acc _ hI (by exact hsz)).mono ?_
      rintro e W1 ⟨rfl, b1⟩
      have c2 := hB.trans b1
      go_wp2
      go_ret
      rw [HQ.out]
      exact ⟨rfl, c2⟩
end Go.Proofs.Ytefncnmahimgpaa
