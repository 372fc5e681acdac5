/- For every text, Decode answers as the reference's First does, and the encoding of what it answers is the beginning of the text. No condition. -/
import Derived.Test.YtefncnmahimgpaaRows
import Derived.Test.YtefncnmahimgpaaUKnown
import Derived.Test.YtefncnmahimgpaaUInv
import Derived.WalkKit
import Derived.OwnWalk
import Derived.WalkSpells
import Derived.WalkLawsBesides
import Derived.ProofKit
import Derived.OpenShut
import Derived.ShutString
import Derived.ChangeOld
import Derived.Below
import Derived.Lib.Hide
import Derived.Deep.QuietTactic
import Derived.BigQuiet
namespace Go.Proofs.Ytefncnmahimgpaa.decodes
open Go.ChangeShapes Go.WideShapes Go.ChangeAt Go.RowKit
open Go.ChangeMaps (open_string shut_string)

theorem rfirst8 (s : ByteArray) (hs1 : 1 ≤ s.size) (n : Nat) (hn : n = min s.size 8) (w : World) :
    Calls Try.prog 20 #[.string (s.extract 0 n)] w fun e w' => e = .returned (.tuple #[.int .i64 (pFirst s.data.toList).1, .int .i64 (pFirst s.data.toList).2.1, .int .i64 (pFirst s.data.toList).2.2]) ∧ Below w.heap.size w w' := by
  have h := rfirst_any (s.extract 0 n) (by rw [ByteArray.size_extract]; omega) w
  have hL : s.data.toList.length = s.size := by simp
  rw [take_list, first_eq _ (by rw [List.length_take]; omega)] at h
  have e : pFirst (s.data.toList.take n) = pFirst s.data.toList := by
    by_cases h8 : 4 ≤ n
    · exact first_take _ _ h8
    · rw [List.take_of_length_le (by omega)]
  rw [e] at h
  exact h

set_option maxRecDepth 100000 in
set_option maxHeartbeats 1600000 in
theorem decodes_walk (s : ByteArray) (hs : s.size ≤ maxLen) (w : World) :
    Calls Try.prog 4 #[.string s] w fun e w' => e = .returned (.bool true) ∧ Below w.heap.size w w' := by
  have hL : s.data.toList.length = s.size := by simp
  by_cases h0 : s.size = 0
  · have HD := Lib.hid (decode_any s hs)
    have e : pDec s.data.toList = (0, 0, 1) := by rw [pDec, if_pos (by omega)]
    rw [e] at HD
    have he := isEmpty_true h0
    clear e hL h0
    go_enter Try.func4, Try.ntmps4
    go_wp2_with fail
    refine (known_any _).mono ?_
    rintro e w1 ⟨rfl, c1⟩
    go_wp2_with fail
    refine (HD.out _).mono ?_
    rintro e w2 ⟨rfl, b2⟩
    have c2 := c1.trans (b2.mono c1.size)
    go_wp2
    go_ret
    exact ⟨rfl, c2⟩
  · have HD := Lib.hid (decode_any s hs)
    have e : pDec s.data.toList = pFirst s.data.toList := by rw [pDec, if_neg (by omega)]
    rw [e] at HD
    have he := isEmpty_false h0
    have hs1 : 1 ≤ s.size := by omega
    have HR := Lib.hid (rfirst8 s hs1)
    have HE := Lib.hid (enc_of_first s.data.toList)
    have hbd := @pFirst_lt s.data.toList
    have hok := @pFirst_ok s.data.toList
    rw [hL] at hok
    have HT : Hid (∀ n, (⟨(s.data.toList.take n).toArray⟩ : ByteArray) = s.extract 0 n) := Lib.hid (fun n => by
      apply ByteArray.ext
      rw [← Array.toList_inj]
      rw [take_list])
    clear e hL h0
    unfold maxLen at hs
    generalize pFirst s.data.toList = p at *
    obtain ⟨r, n, e⟩ := p
    dsimp only at HD HR HE hbd hok
    have HEnc := Lib.hid (encode_any (r : Int))
    have HR' := Lib.hid (HR.out (min s.size 8) rfl)
    have hm : (min (s.size : Int) 8).toNat = min s.size 8 := by omega
    clear HR
    cases hez : ((e : Int) != 0)
    · have h0 : e = 0 := by simpa using hez
      have hn := hok h0
      have hn2 : n ≤ s.size := hn.2.1
      have HX := HE.out h0
      rw [HX, HT.out] at HEnc
      clear HE HT HX hok
      go_enter Try.func4, Try.ntmps4
      go_wp2_with fail
      refine (known_any _).mono ?_
      rintro e w1 ⟨rfl, c1⟩
      go_wp2_with fail
      refine (HD.out _).mono ?_
      rintro e w2 ⟨rfl, b2⟩
      have c2 := c1.trans (b2.mono c1.size)
      clear c1 b2
      go_wp2_with fail
      refine (HR'.out _).mono ?_
      rintro e w3 ⟨rfl, b3⟩
      have c3 := c2.trans (b3.mono c2.size)
      clear c2 b3 hm
      go_wp2_with fail
      refine (HEnc.out _).mono ?_
      rintro e w4 ⟨rfl, b4⟩
      have c4 := c3.trans (b4.mono c3.size)
      clear c3 b4
      go_wp2
      go_ret
      exact ⟨ret_bool (by simp), c4⟩
    · have hpe : ∃ pe, pe = pEnc (r : Int) := ⟨_, rfl⟩
      obtain ⟨⟨bb, g⟩, hpe⟩ := hpe
      rw [← hpe] at HEnc
      clear HE HT hok hpe
      go_enter Try.func4, Try.ntmps4
      go_wp2_with fail
      refine (known_any _).mono ?_
      rintro e w1 ⟨rfl, c1⟩
      go_wp2_with fail
      refine (HD.out _).mono ?_
      rintro e w2 ⟨rfl, b2⟩
      have c2 := c1.trans (b2.mono c1.size)
      clear c1 b2
      go_wp2_with fail
      refine (HR'.out _).mono ?_
      rintro e w3 ⟨rfl, b3⟩
      have c3 := c2.trans (b3.mono c2.size)
      clear c2 b3 hm
      go_wp2_with fail
      refine (HEnc.out _).mono ?_
      rintro e w4 ⟨rfl, b4⟩
      have c4 := c3.trans (b4.mono c3.size)
      clear c3 b4
      go_wp2
      go_ret
      exact ⟨rfl, c4⟩

theorem own : ownKnob Try.prog.godebug = none := by kernel_rfl
theorem laidOut : laidOutB Try.prog = true := by kernel_rfl

set_option maxRecDepth 100000 in
theorem lifted (os : Os) (started : os.Started) (H : Type) (enc : TypeId × Value → H) :
    ReturnsInHanded {} Try.checked os 4 .any (Rows.utf8DecodeSpec.pre6 enc Try.prog Try.f4 Rows.utf8DecodeRow.domain false) (Rows.utf8DecodeSpec.post enc Try.prog Try.f4 false true false false) := by
  refine returnsInHanded_of_change (C := Try.checked) own started (by kernel_rfl) Try.func4
    (ChangeSpec.witness6 (enc := enc) (C := Try.checked) false ⟨#[], #[.string ByteArray.empty], []⟩ 8 (by kernel_rfl) (by kernel_rfl) (by kernel_rfl) (by kernel_rfl)) ?_
  intro W base args ds gs before hval0 hW hcnd _
  have hval : ∀ (j : Nat) t v, Try.f4.params[j]? = some t → args[j]? = some v → Value.okWide Try.prog W .any base t v := hval0
  have hW' := hW
  obtain ⟨p, q, hA0, hV, rfl, hfz, hnd⟩ := hW
  have hA : DataW.TrodAll enc Try.prog W 0 (fun _ => true) true Try.f4.params.toList args.toList ds p := hA0
  rw [Try.params4] at hA hval
  obtain ⟨v0, vs0, d0, ds0, p0, q0, hargs, rfl, rfl, h0, r0⟩ := trodAll_cons hA
  obtain ⟨rfl, rfl, rfl⟩ := trodAll_nil r0
  obtain rfl : args = #[v0] := by cases args; simp_all
  obtain ⟨rfl, rfl⟩ := trodVars_none hV
  have k0 := h0
  have lt0 : ∀ x ∈ p0, x.block < W.heap.size := by obtain ⟨m, hm⟩ := k0; exact DataW.trod_lt m _ _ _ hm
  obtain ⟨a0, rfl, rfl, rfl, w0⟩ := open_string Try.underlying9 (hval 0 9 v0 rfl rfl) h0
  clear hA0 hval0
  refine (decodes_walk a0 w0 W).mono fun e W' ⟨he, bel⟩ => ?_
  subst he
  exact ⟨_, rfl, _, _, _, [], _, [], hW', trodAll_mk1 (shut_bool Try.underlying4 _), (trodAll_cons_mk (Below.trod laidOut (by kernel_rfl) (of_decide_eq_true (by kernel_rfl)) k0 bel lt0) trodAll_mk0), rfl, bel.frame _, fun h => by cases h⟩

theorem over : Rows.utf8DecodeRow.holds Try.pinned (OpenSpec.ofChange Rows.utf8DecodeSpec) :=
  OpenClaim.holds_of_wide 4 Try.f4 rfl rfl rfl rfl rfl rfl rfl ⟨rfl, rfl, rfl, rfl, rfl⟩ rfl rfl rfl rfl rfl (by kernel_rfl) Try.func4 (by kernel_rfl)
    (of_decide_eq_true (by kernel_rfl)) (by unfold Func.isWrapper; first | (rw [if_pos (by decide +kernel)]; kernel_rfl) | (rw [if_neg (by decide +kernel)]; exact ⟨rfl, rfl⟩))
    (fun os started H enc _ => lifted os started H enc)

/-- the statement -/
theorem proved : Rows.Utf8DecodeSaid := over
#print axioms proved

end Go.Proofs.Ytefncnmahimgpaa.decodes
