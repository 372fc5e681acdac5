/- The walk of the law Utf8Count. -/
import Derived.Test.YtefncnmahimgpaaRows
import Derived.Test.YtefncnmahimgpaaUKnown
import Derived.Test.YtefncnmahimgpaaURefAll
import Derived.Test.YtefncnmahimgpaaUShort
import Derived.Test.YtefncnmahimgpaaUOffs
import Derived.Test.YtefncnmahimgpaaRowAt
import Derived.WalkKit
import Derived.OwnWalk
import Derived.WalkSpells
import Derived.WalkLawsBesides
import Derived.Below
import Derived.Lib.Hide
namespace Go.Proofs.Ytefncnmahimgpaa
open Go.RowKit

set_option maxRecDepth 100000 in
set_option maxHeartbeats 1600000 in
theorem countl_walk (s : ByteArray) (hs : s.size ≤ maxLen) (i : Int) (_hi : (Lit.int .i64 i).wf = true) (w : World) :
    Calls Try.prog 11 #[.string s, .int .i64 i] w fun e w' => e = .returned (.bool true) ∧ Below w.heap.size w w' := by
  have hz := take_size s 300
  have hx : (s.extract 0 (min s.size 300)).size ≤ 1000000 := by omega
  have HS := Lib.hid (short_any s 300 hs (by omega))
  go_enter Try.func11, Try.ntmps11
  go_wp2_with fail
  refine (HS.out _).mono ?_
  rintro e w1 ⟨rfl, c1⟩
  clear HS hz
  generalize s.extract 0 (min s.size 300) = t at *
  have hll : (pAll t.data.toList 0).1.length ≤ 1000000 := by
    have h1 := pAll_len' t.data.toList
    have h2 : t.data.toList.length = t.size := by simp
    omega
  have HR := Lib.hid (rall_any t hx)
  have HC := Lib.hid (count_any t hx)
  have HO : Hid (okAll t.data.toList = decide ((pAll t.data.toList 0).2.2 = 0)) := Lib.hid rfl
  have HOe := Lib.hid (offset_err t hx (pAll t.data.toList 0).2.2)
  have HOr := Lib.hid (offset_range t hx)
  have HOk := Lib.hid (offset_ok t hx)
  generalize pAll t.data.toList 0 = p at *
  obtain ⟨l, at', e⟩ := p
  dsimp only at HR HC HO HOe HOr HOk hll
  generalize okAll t.data.toList = ok at *
  go_wp2_with fail
  refine (HR.out _).mono ?_
  rintro r w2 ⟨v1, v2, rfl, hr1, hr2, _, b2⟩
  have c2 := c1.trans (b2.mono c1.size)
  obtain ⟨a1, cap1, rfl, s1⟩ := rowAt_of_owns hr1
  obtain ⟨a2, cap2, rfl, s2⟩ := rowAt_of_owns hr2
  clear c1 b2 HR hr1 hr2
  by_cases he : e = 0
  · subst he
    obtain rfl : ok = true := by rw [HO.out]; rfl
    simp only [if_true] at HC
    go_wp2_with fail
    refine (HC.out _).mono ?_
    rintro r w3 ⟨rfl, b3⟩
    have c3 := c2.trans (b3.mono c2.size)
    have s3 := s2.below b3 (Nat.le_refl _)
    by_cases hr : i < 0 ∨ (l.length : Int) < i
    · have HX := Lib.hid (HOr.out trivial i hr)
      clear HOr HOk HOe HO HC
      go_wp2_with fail
      refine (HX.out _).mono ?_
      rintro r w4 ⟨rfl, b4⟩
      have c4 := c3.trans (b4.mono c3.size)
      go_wp2_with fail
      refine (known_any _).mono ?_
      rintro r w5 ⟨rfl, b5⟩
      have c5 := c4.trans (b5.mono c4.size)
      rcases hr with h0 | h0
      · go_wp2
        go_ret
        exact ⟨rfl, c5⟩
      · have h00 : ¬ i < 0 := by omega
        go_wp2
        go_ret
        exact ⟨rfl, c5⟩
    · obtain ⟨k, rfl⟩ := Int.eq_ofNat_of_zero_le (show 0 ≤ i by omega)
      have hk : k ≤ l.length := by omega
      have HX := Lib.hid (HOk.out trivial k hk)
      have hg : ¬ (l.length : Int) < (k : Int) := by omega
      clear HOr HOk HOe HO HC hr
      go_wp2_with fail
      refine (HX.out _).mono ?_
      rintro r w4 ⟨rfl, b4⟩
      have c4 := c3.trans (b4.mono c3.size)
      have s4 := s3.below b4 b3.size
      go_wp2_with fail
      refine (known_any _).mono ?_
      rintro r w5 ⟨rfl, b5⟩
      have c5 := c4.trans (b5.mono c4.size)
      have s5 := s4.below b5 (Nat.le_trans b3.size b4.size)
      by_cases hkl : k < l.length
      · obtain ⟨g, rfl, hg1, hc⟩ := s5.at (j := k) (by simpa [ofs] using hkl)
        have hc' : w5.cell? ⟨g, k, none⟩ = some (.int .i64 (offAt l t.size k : Int)) := by rw [hc]; simp [ofs, offAt, hkl]
        have hkli : (k : Int) < (l.length : Int) := by omega
        clear hc
        go_wp2
        go_ret
        exact ⟨ret_bool (by simp), c5⟩
      · have hkli : ¬ (k : Int) < (l.length : Int) := by omega
        have ho : offAt l t.size k = t.size := by rw [offAt, dif_neg hkl]
        have hq : ((offAt l t.size k : Int) == (t.size : Int)) = true := by rw [ho]; simp
        clear ho
        go_wp2
        go_ret
        exact ⟨rfl, c5⟩
  · obtain rfl : ok = false := by rw [HO.out]; simpa using he
    have HX := Lib.hid (HOe.out he trivial i)
    have he' : ((e : Int) != 0) = true := by simpa using he
    clear HOr HOk HOe HO
    go_wp2_with fail
    refine (HC.out _).mono ?_
    rintro r w3 ⟨rfl, b3⟩
    have c3 := c2.trans (b3.mono c2.size)
    go_wp2_with fail
    refine (HX.out _).mono ?_
    rintro r w4 ⟨rfl, b4⟩
    have c4 := c3.trans (b4.mono c3.size)
    go_wp2_with fail
    refine (known_any _).mono ?_
    rintro r w5 ⟨rfl, b5⟩
    have c5 := c4.trans (b5.mono c4.size)
    go_wp2
    go_ret
    exact ⟨ret_bool (by simp), c5⟩
end Go.Proofs.Ytefncnmahimgpaa
