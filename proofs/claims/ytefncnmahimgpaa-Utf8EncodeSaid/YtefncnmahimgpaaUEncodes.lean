/- For every number and every text of up to 20 bytes behind it: Encode answers as the reference does, and Decode is its inverse. No condition. -/
import Derived.Test.YtefncnmahimgpaaRows
import Derived.Test.YtefncnmahimgpaaUKnown
import Derived.Test.YtefncnmahimgpaaUInv2
import Derived.Test.YtefncnmahimgpaaURefEnc
import Derived.Test.YtefncnmahimgpaaUShort
import Derived.WalkKit
import Derived.OwnWalk
import Derived.WalkSpells
import Derived.WalkLawsBesides
import Derived.ProofKit
import Derived.OpenShut
import Derived.ShutString
import Derived.ChangeOld
import Derived.Below
import Derived.Lib.Hide
import Derived.Lib.ConvBytes
import Derived.Laws.IdiomStrings
import Derived.Deep.MidRow
import Derived.Deep.QuietTactic
import Derived.BigQuiet
namespace Go.Proofs.Ytefncnmahimgpaa.encodes
open Go.ChangeShapes Go.WideShapes Go.ChangeAt Go.RowKit
open Go.ChangeMaps (open_string shut_string)

theorem dec_enc (r : Nat) (hs : r ≤ 1114111) (hsur : r < 55296 ∨ 57343 < r) (t : ByteArray) (ht : t.size ≤ 20) (w : World) :
    Calls Try.prog 19 #[.string (⟨(encL r).toArray⟩ ++ t)] w fun e w' => e = .returned (.tuple #[.int .i32 r, .int .i64 (encL r).length, .int .i64 0]) ∧ Below w.heap.size w w' := by
  have hl := encL_len r
  have hsz : (⟨(encL r).toArray⟩ : ByteArray).size = (encL r).length := by rw [ByteArray.size]; simp
  have h := decode_any (⟨(encL r).toArray⟩ ++ t) (by rw [ByteArray.size_append, hsz]; unfold maxLen; omega) w
  have e : ((⟨(encL r).toArray⟩ : ByteArray) ++ t).data.toList = encL r ++ t.data.toList := by simp [ByteArray.data_append]
  rw [e, pDec, if_neg (by rw [List.length_append]; omega), first_enc r hs hsur] at h
  exact h

set_option maxRecDepth 100000 in
set_option maxHeartbeats 1600000 in
theorem encodes_walk (r : Int) (hr : (Lit.int .i32 r).wf = true) (s : ByteArray) (hs : s.size ≤ maxLen) (w : World) :
    Calls Try.prog 5 #[.int .i32 r, .string s] w fun e w' => e = .returned (.bool true) ∧ Below w.heap.size w w' := by
  have hbr := bounds_i32 hr
  have hz := take_size s 20
  have hx : (s.extract 0 (min s.size 20)).size ≤ 20 := by omega
  have HS := Lib.hid (short_any s 20 hs (by omega))
  have HSC := Lib.hid (scalar_any r)
  cases hsc : scalarB r
  · have HE := encode_any r
    have he : pEnc r = (⟨#[]⟩, 2) := by rw [pEnc, hsc]; rfl
    rw [he] at HE
    rw [hsc] at HSC
    have HE' := Lib.hid HE
    clear HE he hsc
    go_enter Try.func5, Try.ntmps5
    go_wp2_with fail
    refine (HS.out _).mono ?_
    rintro e w1 ⟨rfl, c1⟩
    clear HS hz
    generalize s.extract 0 (min s.size 20) = t at *
    go_wp2_with fail
    refine (HE'.out _).mono ?_
    rintro e w2 ⟨rfl, b2⟩
    have c2 := c1.trans (b2.mono c1.size)
    clear c1 b2
    go_wp2_with fail
    refine (known_any _).mono ?_
    rintro e w3 ⟨rfl, b3⟩
    have c3 := c2.trans (b3.mono c2.size)
    clear c2 b3
    go_wp2_with fail
    refine (HSC.out _).mono ?_
    rintro e w4 ⟨rfl, b4⟩
    have c4 := c3.trans (b4.mono c3.size)
    clear c3 b4
    go_wp2
    go_ret
    exact ⟨ret_bool (by first | rfl | decide | simp), c4⟩
  · obtain ⟨rn, rfl⟩ : ∃ rn : Nat, r = (rn : Int) := ⟨r.toNat, by simp [scalarB] at hsc; omega⟩
    have hmx : rn ≤ 1114111 := by simp [scalarB] at hsc; omega
    have hsur : rn < 55296 ∨ 57343 < rn := by simp [scalarB] at hsc; omega
    have HE := encode_any (rn : Int)
    have he : pEnc (rn : Int) = (⟨(encL rn).toArray⟩, 0) := by rw [pEnc, hsc, Int.toNat_natCast]; rfl
    rw [he] at HE
    rw [hsc] at HSC
    have HE' := Lib.hid HE
    have HR := Lib.hid (rencode_any rn hmx)
    have HD := Lib.hid (dec_enc rn hmx hsur (s.extract 0 (min s.size 20)) hx)
    have HLN : Hid ((encL rn).length = (encN rn).length) := Lib.hid (by simp [encL])
    have HB : Hid (∀ j (hj : j < (encL rn).length), (encN rn)[j]? = some ((encL rn)[j].toNat)) := by
      refine Lib.hid (fun j hj => ?_)
      have hj' : j < (encN rn).length := by rw [← HLN.out]; exact hj
      rw [List.getElem?_eq_getElem hj']
      have hb : ∀ x ∈ encN rn, x < 256 := by
        intro x hx
        unfold encN at hx
        revert hx
        (repeat' split) <;> intro hx <;> simp at hx <;> omega
      have := hb _ (List.getElem_mem hj')
      simp only [encL, List.getElem_map]
      rw [u8n _ this]
    have hl4 := encL_len rn
    clear HE he hsc hmx hsur
    generalize encL rn = L at *
    go_enter Try.func5, Try.ntmps5
    go_wp2_with fail
    refine (HS.out _).mono ?_
    rintro e w1 ⟨rfl, c1⟩
    clear HS hz
    generalize s.extract 0 (min s.size 20) = t at *
    go_wp2_with fail
    refine (HE'.out _).mono ?_
    rintro e w2 ⟨rfl, b2⟩
    have c2 := c1.trans (b2.mono c1.size)
    clear c1 b2
    go_wp2_with fail
    refine (known_any _).mono ?_
    rintro e w3 ⟨rfl, b3⟩
    have c3 := c2.trans (b3.mono c2.size)
    clear c2 b3
    go_wp2_with fail
    refine (HSC.out _).mono ?_
    rintro e w4 ⟨rfl, b4⟩
    have c4 := c3.trans (b4.mono c3.size)
    clear c3 b4
    go_wp2_with fail
    refine (HD.out _).mono ?_
    rintro e w5 ⟨rfl, b5⟩
    have c5 := c4.trans (b5.mono c4.size)
    clear c4 b5
    go_wp2_with fail
    refine (HR.out _).mono ?_
    rintro e w6 ⟨g, cap, rfl, hcells, b6⟩
    have c6 := c5.trans (b6.mono c5.size)
    have hback := run_convert_bytes_back (P := Try.prog) w6 38 9 5 ⟨g, 0, none⟩ cap L Try.underlying38 Try.underlying5 Try.underlying9 (fun j hj => by
      rw [Addr.add_mid, Nat.zero_add]
      exact hcells j _ (HB.out j hj))
    rw [HLN.out] at hback
    clear hcells c5 b6
    go_wp2
    go_ret
    exact ⟨ret_bool (by simp), c6⟩

theorem own : ownKnob Try.prog.godebug = none := by kernel_rfl
theorem laidOut : laidOutB Try.prog = true := by kernel_rfl

set_option maxRecDepth 100000 in
theorem lifted (os : Os) (started : os.Started) (H : Type) (enc : TypeId × Value → H) :
    ReturnsInHanded {} Try.checked os 5 .any (Rows.utf8EncodeSpec.pre6 enc Try.prog Try.f5 Rows.utf8EncodeRow.domain false) (Rows.utf8EncodeSpec.post enc Try.prog Try.f5 false true false false) := by
  refine returnsInHanded_of_change (C := Try.checked) own started (by kernel_rfl) Try.func5
    (ChangeSpec.witness6 (enc := enc) (C := Try.checked) false ⟨#[], #[.int .i32 0, .string ByteArray.empty], []⟩ 8 (by kernel_rfl) (by kernel_rfl) (by kernel_rfl) (by kernel_rfl)) ?_
  intro W base args ds gs before hval0 hW hcnd _
  have hval : ∀ (j : Nat) t v, Try.f5.params[j]? = some t → args[j]? = some v → Value.okWide Try.prog W .any base t v := hval0
  have hW' := hW
  obtain ⟨p, q, hA0, hV, rfl, hfz, hnd⟩ := hW
  have hA : DataW.TrodAll enc Try.prog W 0 (fun _ => true) true Try.f5.params.toList args.toList ds p := hA0
  rw [Try.params5] at hA hval
  obtain ⟨v0, vs0, d0, ds0, p0, q0, hargs, rfl, rfl, h0, r0⟩ := trodAll_cons hA
  obtain ⟨v1, vs1, d1, ds1, p1, q1, rfl, rfl, rfl, h1, r1⟩ := trodAll_cons r0
  obtain ⟨rfl, rfl, rfl⟩ := trodAll_nil r1
  obtain rfl : args = #[v0, v1] := by cases args; simp_all
  obtain ⟨rfl, rfl⟩ := trodVars_none hV
  have k0 := h0
  have lt0 : ∀ x ∈ p0, x.block < W.heap.size := by obtain ⟨m, hm⟩ := k0; exact DataW.trod_lt m _ _ _ hm
  have k1 := h1
  have lt1 : ∀ x ∈ p1, x.block < W.heap.size := by obtain ⟨m, hm⟩ := k1; exact DataW.trod_lt m _ _ _ hm
  obtain ⟨a0, rfl, rfl, rfl, w0⟩ := open_int Try.underlying21 (hval 0 21 v0 rfl rfl) h0
  obtain ⟨a1, rfl, rfl, rfl, w1⟩ := open_string Try.underlying9 (hval 1 9 v1 rfl rfl) h1
  clear hA0 hval0
  refine (encodes_walk a0 w0 a1 w1 W).mono fun e W' ⟨he, bel⟩ => ?_
  subst he
  exact ⟨_, rfl, _, _, _, [], _, [], hW', trodAll_mk1 (shut_bool Try.underlying4 _), (trodAll_cons_mk (Below.trod laidOut (by kernel_rfl) (of_decide_eq_true (by kernel_rfl)) k0 bel lt0) (trodAll_cons_mk (Below.trod laidOut (by kernel_rfl) (of_decide_eq_true (by kernel_rfl)) k1 bel lt1) trodAll_mk0)), rfl, bel.frame _, fun h => by cases h⟩

theorem over : Rows.utf8EncodeRow.holds Try.pinned (OpenSpec.ofChange Rows.utf8EncodeSpec) :=
  OpenClaim.holds_of_wide 5 Try.f5 rfl rfl rfl rfl rfl rfl rfl ⟨rfl, rfl, rfl, rfl, rfl⟩ rfl rfl rfl rfl rfl (by kernel_rfl) Try.func5 (by kernel_rfl)
    (of_decide_eq_true (by kernel_rfl)) (by unfold Func.isWrapper; first | (rw [if_pos (by decide +kernel)]; kernel_rfl) | (rw [if_neg (by decide +kernel)]; exact ⟨rfl, rfl⟩))
    (fun os started H enc _ => lifted os started H enc)

/-- the statement -/
theorem proved : Rows.Utf8EncodeSaid := over
#print axioms proved

end Go.Proofs.Ytefncnmahimgpaa.encodes
