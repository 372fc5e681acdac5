/- For every text, the first 300 bytes: Repair answers as the reference does, its answer is valid and stands, and a valid text stands. No condition. -/
import Derived.Test.YtefncnmahimgpaaRows
import Derived.Test.YtefncnmahimgpaaUKnown
import Derived.Test.YtefncnmahimgpaaURefRep
import Derived.Test.YtefncnmahimgpaaUShort
import Derived.WalkKit
import Derived.OwnWalk
import Derived.WalkSpells
import Derived.WalkLawsBesides
import Derived.ProofKit
import Derived.OpenShut
import Derived.ShutString
import Derived.ChangeOld
import Derived.Below
import Derived.Lib.Hide
import Derived.Deep.QuietTactic
import Derived.BigQuiet
namespace Go.Proofs.Ytefncnmahimgpaa.repairs
open Go.ChangeShapes Go.WideShapes Go.ChangeAt Go.RowKit
open Go.ChangeMaps (open_string shut_string)

theorem rep_len (l : List UInt8) : ∀ m k, l.length - k ≤ m → (pRep l k).length ≤ 3 * (l.length - k) := by
  intro m
  induction m with
  | zero => intro k h; rw [pRep_end (by omega)]; simp
  | succ m ih =>
    intro k h
    by_cases hlt : k < l.length
    · by_cases he : (pFirst (l.drop k)).2.2 = 0
      · have hp := pFirst_ok he
        rw [List.length_drop] at hp
        have := ih (k + (pFirst (l.drop k)).2.1) (by omega)
        rw [pRep_ok hlt he, List.length_append, List.length_take, List.length_drop]
        omega
      · have hp := pSkip_pos (l.drop k)
        have := ih (k + pSkip (l.drop k)) (by omega)
        rw [pRep_err hlt he, List.length_append]
        show 3 + _ ≤ _
        omega
    · rw [pRep_end hlt]; simp

set_option maxRecDepth 100000 in
set_option maxHeartbeats 1600000 in
theorem repairs_walk (s : ByteArray) (hs : s.size ≤ maxLen) (w : World) :
    Calls Try.prog 6 #[.string s] w fun e w' => e = .returned (.bool true) ∧ Below w.heap.size w w' := by
  have hz := take_size s 300
  have hx : (s.extract 0 (min s.size 300)).size ≤ 300 := by omega
  have HS := Lib.hid (short_any s 300 hs (by omega))
  go_enter Try.func6, Try.ntmps6
  go_wp2_with fail
  refine (HS.out _).mono ?_
  rintro e w1 ⟨rfl, c1⟩
  clear HS hz
  generalize s.extract 0 (min s.size 300) = t at *
  have hL : t.data.toList.length = t.size := by simp
  have HA := Lib.hid (repair_any t (by omega))
  have HR := Lib.hid (rrepair_any t (by omega))
  have HV := Lib.hid (valid_any t (by unfold maxLen; omega))
  have hl := rep_len t.data.toList t.data.toList.length 0 (by omega)
  rw [hL] at hl
  have hv := rep_valid t.data.toList t.data.toList.length 0 (by omega)
  have hsame := rep_same (pRep t.data.toList 0) (pRep t.data.toList 0).length 0 (by omega) hv
  rw [List.drop_zero] at hsame
  have hst := rep_same t.data.toList t.data.toList.length 0 (by omega)
  rw [List.drop_zero] at hst
  have hq : okAll t.data.toList = true → (⟨(pRep t.data.toList 0).toArray⟩ : ByteArray) = t := by
    intro h
    unfold okAll at h
    rw [hst (by simpa using h), ← ba_of t]
  have HQ := Lib.hid hq
  have hu : (⟨(pRep t.data.toList 0).toArray⟩ : ByteArray).data.toList = pRep t.data.toList 0 := rfl
  have hus : (⟨(pRep t.data.toList 0).toArray⟩ : ByteArray).size ≤ 900 := by rw [ByteArray.size]; simp; omega
  have hok : okAll (pRep t.data.toList 0) = true := by unfold okAll; simp [hv]
  have HA2 := repair_any ⟨(pRep t.data.toList 0).toArray⟩ (by omega)
  rw [hu, hsame] at HA2
  have HV2 := valid_any ⟨(pRep t.data.toList 0).toArray⟩ (by unfold maxLen; omega)
  rw [hu, hok] at HV2
  have HA2' := Lib.hid HA2
  have HV2' := Lib.hid HV2
  clear HA2 HV2 hus hu hq hst hsame hv hl hL hok
  generalize (⟨(pRep t.data.toList 0).toArray⟩ : ByteArray) = u at *
  generalize okAll t.data.toList = ok at *
  go_wp2_with fail
  refine (HA.out _).mono ?_
  rintro e w2 ⟨rfl, b2⟩
  have c2 := c1.trans (b2.mono c1.size)
  clear c1 b2
  go_wp2_with fail
  refine (known_any _).mono ?_
  rintro e w3 ⟨rfl, b3⟩
  have c3 := c2.trans (b3.mono c2.size)
  clear c2 b3
  go_wp2_with fail
  refine (HR.out _).mono ?_
  rintro e w4 ⟨rfl, b4⟩
  have c4 := c3.trans (b4.mono c3.size)
  clear c3 b4
  go_wp2_with fail
  refine (HV2'.out _).mono ?_
  rintro e w5 ⟨rfl, b5⟩
  have c5 := c4.trans (b5.mono c4.size)
  clear c4 b5
  go_wp2_with fail
  refine (HA2'.out _).mono ?_
  rintro e w6 ⟨rfl, b6⟩
  have c6 := c5.trans (b6.mono c5.size)
  clear c5 b6
  go_wp2_with fail
  refine (HV.out _).mono ?_
  rintro e w7 ⟨rfl, b7⟩
  have c7 := c6.trans (b7.mono c6.size)
  clear c6 b7
  cases ok
  · go_wp2
    go_ret
    exact ⟨ret_bool (by simp), c7⟩
  · have hut := HQ.out rfl
    subst hut
    go_wp2
    go_ret
    exact ⟨ret_bool (by simp), c7⟩

theorem own : ownKnob Try.prog.godebug = none := by kernel_rfl
theorem laidOut : laidOutB Try.prog = true := by kernel_rfl

set_option maxRecDepth 100000 in
theorem lifted (os : Os) (started : os.Started) (H : Type) (enc : TypeId × Value → H) :
    ReturnsInHanded {} Try.checked os 6 .any (Rows.utf8RepairSpec.pre6 enc Try.prog Try.f6 Rows.utf8RepairRow.domain false) (Rows.utf8RepairSpec.post enc Try.prog Try.f6 false true false false) := by
  refine returnsInHanded_of_change (C := Try.checked) own started (by kernel_rfl) Try.func6
    (ChangeSpec.witness6 (enc := enc) (C := Try.checked) false ⟨#[], #[.string ByteArray.empty], []⟩ 8 (by kernel_rfl) (by kernel_rfl) (by kernel_rfl) (by kernel_rfl)) ?_
  intro W base args ds gs before hval0 hW hcnd _
  have hval : ∀ (j : Nat) t v, Try.f6.params[j]? = some t → args[j]? = some v → Value.okWide Try.prog W .any base t v := hval0
  have hW' := hW
  obtain ⟨p, q, hA0, hV, rfl, hfz, hnd⟩ := hW
  have hA : DataW.TrodAll enc Try.prog W 0 (fun _ => true) true Try.f6.params.toList args.toList ds p := hA0
  rw [Try.params6] at hA hval
  obtain ⟨v0, vs0, d0, ds0, p0, q0, hargs, rfl, rfl, h0, r0⟩ := trodAll_cons hA
  obtain ⟨rfl, rfl, rfl⟩ := trodAll_nil r0
  obtain rfl : args = #[v0] := by cases args; simp_all
  obtain ⟨rfl, rfl⟩ := trodVars_none hV
  have k0 := h0
  have lt0 : ∀ x ∈ p0, x.block < W.heap.size := by obtain ⟨m, hm⟩ := k0; exact DataW.trod_lt m _ _ _ hm
  obtain ⟨a0, rfl, rfl, rfl, w0⟩ := open_string Try.underlying9 (hval 0 9 v0 rfl rfl) h0
  clear hA0 hval0
  refine (repairs_walk a0 w0 W).mono fun e W' ⟨he, bel⟩ => ?_
  subst he
  exact ⟨_, rfl, _, _, _, [], _, [], hW', trodAll_mk1 (shut_bool Try.underlying4 _), (trodAll_cons_mk (Below.trod laidOut (by kernel_rfl) (of_decide_eq_true (by kernel_rfl)) k0 bel lt0) trodAll_mk0), rfl, bel.frame _, fun h => by cases h⟩

theorem over : Rows.utf8RepairRow.holds Try.pinned (OpenSpec.ofChange Rows.utf8RepairSpec) :=
  OpenClaim.holds_of_wide 6 Try.f6 rfl rfl rfl rfl rfl rfl rfl ⟨rfl, rfl, rfl, rfl, rfl⟩ rfl rfl rfl rfl rfl (by kernel_rfl) Try.func6 (by kernel_rfl)
    (of_decide_eq_true (by kernel_rfl)) (by unfold Func.isWrapper; first | (rw [if_pos (by decide +kernel)]; kernel_rfl) | (rw [if_neg (by decide +kernel)]; exact ⟨rfl, rfl⟩))
    (fun os started H enc _ => lifted os started H enc)

/-- the statement -/
theorem proved : Rows.Utf8RepairSaid := over
#print axioms proved

end Go.Proofs.Ytefncnmahimgpaa.repairs
