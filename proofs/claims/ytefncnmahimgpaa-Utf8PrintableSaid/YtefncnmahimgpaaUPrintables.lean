/- For every text, the first 300 bytes: Printable answers whether it is valid and holds no control character. No condition. -/
import Derived.Test.YtefncnmahimgpaaRows
import Derived.Test.YtefncnmahimgpaaUKnown
import Derived.Test.YtefncnmahimgpaaURefAll
import Derived.Test.YtefncnmahimgpaaUShort
import Derived.Test.YtefncnmahimgpaaUPrint
import Derived.Test.YtefncnmahimgpaaUCtl
import Derived.WalkKit
import Derived.OwnWalk
import Derived.WalkSpells
import Derived.WalkLawsBesides
import Derived.ProofKit
import Derived.OpenShut
import Derived.ShutString
import Derived.ChangeOld
import Derived.Below
import Derived.Lib.Hide
import Derived.Deep.MidRow
import Derived.Deep.QuietTactic
import Derived.BigQuiet
namespace Go.Proofs.Ytefncnmahimgpaa.printables
open Go.ChangeShapes Go.WideShapes Go.ChangeAt Go.RowKit
open Go.ChangeMaps (open_string shut_string)

theorem owns_any {w : World} {B n : Nat} {e : TypeId} {v : Value} {xs : List Value} (h : w.ownsRow B e 1 v n xs) : ∃ ao cap, v = .slice ao n cap ∧ ∀ j, j < n → ∃ g, ao = some ⟨g, 0, none⟩ ∧ g < w.heap.size ∧ w.cell? ⟨g, j, none⟩ = xs[j]? := by
  have h' := h
  obtain ⟨hl, ⟨rfl, rfl⟩ | ⟨g, cap, cur, rfl, h2, h3, h4, h5, h6, h7⟩⟩ := h
  · exact ⟨none, 0, rfl, fun j hj => absurd hj (Nat.not_lt_zero _)⟩
  · refine ⟨_, cap, rfl, fun j hj => ⟨g, rfl, (Array.getElem?_eq_some_iff.1 h3).1, ?_⟩⟩
    exact h'.cellAt j (by omega)
theorem pAll_len (l : List UInt8) : ∀ m k, l.length - k ≤ m → (pAll l k).1.length ≤ l.length - k := by
  intro m
  induction m with
  | zero => intro k h; rw [pAll_end (by omega)]; simp
  | succ m ih =>
    intro k h
    by_cases hlt : k < l.length
    · by_cases he : (pFirst (l.drop k)).2.2 = 0
      · have hp := pFirst_ok he
        rw [List.length_drop] at hp
        have := ih (k + (pFirst (l.drop k)).2.1) (by omega)
        rw [pAll_ok hlt he, List.length_cons]
        omega
      · rw [pAll_err hlt he]; simp
    · rw [pAll_end hlt]; simp
theorem noCtl_snoc (l : List (Nat × Nat)) (k : Nat) (h : k < l.length) : noCtl (l.take (k + 1)) = (noCtl (l.take k) && !ctl (l[k]).2) := by
  rw [List.take_succ_eq_append_getElem h]
  unfold noCtl
  rw [List.all_append]
  simp

set_option maxRecDepth 100000 in
set_option maxHeartbeats 1600000 in
theorem printables_walk (s : ByteArray) (hs : s.size ≤ maxLen) (w : World) :
    Calls Try.prog 9 #[.string s] w fun e w' => e = .returned (.bool true) ∧ Below w.heap.size w w' := by
  have hz := take_size s 300
  have hx : (s.extract 0 (min s.size 300)).size ≤ 1000000 := by omega
  have HS := Lib.hid (short_any s 300 hs (by omega))
  go_enter Try.func9, Try.ntmps9
  go_wp2_with fail
  refine (HS.out _).mono ?_
  rintro e w1 ⟨rfl, c1⟩
  clear HS hz
  generalize s.extract 0 (min s.size 300) = t at *
  have HR := Lib.hid (rall_any t hx)
  have HP := Lib.hid (printable_any t hx)
  have HO : Hid (okAll t.data.toList = decide ((pAll t.data.toList 0).2.2 = 0)) := Lib.hid rfl
  have hll : (pAll t.data.toList 0).1.length ≤ 1000000 := by
    have := pAll_len t.data.toList t.data.toList.length 0 (by omega)
    have hL : t.data.toList.length = t.size := by simp
    omega
  generalize pAll t.data.toList 0 = p at *
  obtain ⟨l, at', e⟩ := p
  dsimp only at HR HP HO hll
  generalize okAll t.data.toList = ok at *
  go_wp2_with fail
  refine (HR.out _).mono ?_
  rintro e w2 ⟨v1, v2, rfl, hr1, _, _, b2⟩
  have c2 := c1.trans (b2.mono c1.size)
  obtain ⟨ao, cap, rfl, hcells⟩ := owns_any hr1
  have HC := Lib.hid hcells
  clear hcells c1 b2 HR hr1
  have hok' : ((e : Int) == 0) = ok := by rw [HO.out]; by_cases h : e = 0 <;> simp [h]
  go_wp2_with fail
  have HT0 : Hid ((ok && noCtl (l.take 0)) = ok) := Lib.hid (by simp [noCtl])
  go_loopw [7, 8] (fun b i wr => ∃ k : Nat, k ≤ l.length ∧ i = .int .i64 k ∧ b = .bool (ok && noCtl (l.take k)) ∧ Below w2.heap.size w2 wr) (fun _ i _ => l.length - (intOf i).toNat)
  case atStart => exact ⟨0, by omega, rfl, by rw [HT0.out], Below.refl _ _⟩
  case round =>
    obtain ⟨k, hk, rfl, rfl, hB⟩ := hrel
    by_cases hlt : k < l.length
    · have hlti : (k : Int) < (l.length : Int) := by omega
      obtain ⟨g, rfl, hg, hcell⟩ := HC.out k hlt
      have hcr : wr.cell? ⟨g, k, none⟩ = some (.int .i64 ((l[k]).2 : Int)) := by
        rw [hB.cell hg, hcell]
        simp [runs, hlt]
      have HN : Hid ((ok && noCtl (l.take (k + 1))) = ((ok && noCtl (l.take k)) && !ctl (l[k]).2)) := Lib.hid (by rw [noCtl_snoc l k hlt, Bool.and_assoc])
      have HCT := Lib.hid (rcontrol_any (l[k]).2)
      clear hcell
      generalize (l[k]).2 = r at *
      generalize hb : (ok && noCtl (l.take k)) = b at *
      clear hb
      cases b
      · go_wp2
        go_roundw
        case rel => exact ⟨k + 1, by omega, by go_num, by rw [HN.out]; rfl, hB⟩
        case measure => simp [intOf]; omega
      · go_wp2_with fail
        refine (HCT.out _).mono ?_
        rintro e w5 ⟨rfl, rfl⟩
        go_wp2
        go_roundw
        case rel => exact ⟨k + 1, by omega, by go_num, by rw [HN.out]; simp, hB⟩
        case measure => simp [intOf]; omega
    · have hlti : ¬ (k : Int) < (l.length : Int) := by omega
      have hkl : l.take k = l := List.take_of_length_le (by omega)
      rw [hkl]
      have c3 := c2.trans (hB.mono c2.size)
      clear hkl hok'
      go_wp2_with fail
      refine (known_any _).mono ?_
      rintro e w5 ⟨rfl, b5⟩
      have c5 := c3.trans (b5.mono c3.size)
      go_wp2_with fail
      refine (HP.out _).mono ?_
      rintro e w6 ⟨rfl, b6⟩
      have c6 := c5.trans (b6.mono c5.size)
      go_wp2
      go_ret
      exact ⟨ret_bool (by simp), c6⟩

theorem own : ownKnob Try.prog.godebug = none := by kernel_rfl
theorem laidOut : laidOutB Try.prog = true := by kernel_rfl

set_option maxRecDepth 100000 in
theorem lifted (os : Os) (started : os.Started) (H : Type) (enc : TypeId × Value → H) :
    ReturnsInHanded {} Try.checked os 9 .any (Rows.utf8PrintableSpec.pre6 enc Try.prog Try.f9 Rows.utf8PrintableRow.domain false) (Rows.utf8PrintableSpec.post enc Try.prog Try.f9 false true false false) := by
  refine returnsInHanded_of_change (C := Try.checked) own started (by kernel_rfl) Try.func9
    (ChangeSpec.witness6 (enc := enc) (C := Try.checked) false ⟨#[], #[.string ByteArray.empty], []⟩ 8 (by kernel_rfl) (by kernel_rfl) (by kernel_rfl) (by kernel_rfl)) ?_
  intro W base args ds gs before hval0 hW hcnd _
  have hval : ∀ (j : Nat) t v, Try.f9.params[j]? = some t → args[j]? = some v → Value.okWide Try.prog W .any base t v := hval0
  have hW' := hW
  obtain ⟨p, q, hA0, hV, rfl, hfz, hnd⟩ := hW
  have hA : DataW.TrodAll enc Try.prog W 0 (fun _ => true) true Try.f9.params.toList args.toList ds p := hA0
  rw [Try.params9] at hA hval
  obtain ⟨v0, vs0, d0, ds0, p0, q0, hargs, rfl, rfl, h0, r0⟩ := trodAll_cons hA
  obtain ⟨rfl, rfl, rfl⟩ := trodAll_nil r0
  obtain rfl : args = #[v0] := by cases args; simp_all
  obtain ⟨rfl, rfl⟩ := trodVars_none hV
  have k0 := h0
  have lt0 : ∀ x ∈ p0, x.block < W.heap.size := by obtain ⟨m, hm⟩ := k0; exact DataW.trod_lt m _ _ _ hm
  obtain ⟨a0, rfl, rfl, rfl, w0⟩ := open_string Try.underlying9 (hval 0 9 v0 rfl rfl) h0
  clear hA0 hval0
  refine (printables_walk a0 w0 W).mono fun e W' ⟨he, bel⟩ => ?_
  subst he
  exact ⟨_, rfl, _, _, _, [], _, [], hW', trodAll_mk1 (shut_bool Try.underlying4 _), (trodAll_cons_mk (Below.trod laidOut (by kernel_rfl) (of_decide_eq_true (by kernel_rfl)) k0 bel lt0) trodAll_mk0), rfl, bel.frame _, fun h => by cases h⟩

theorem over : Rows.utf8PrintableRow.holds Try.pinned (OpenSpec.ofChange Rows.utf8PrintableSpec) :=
  OpenClaim.holds_of_wide 9 Try.f9 rfl rfl rfl rfl rfl rfl rfl ⟨rfl, rfl, rfl, rfl, rfl⟩ rfl rfl rfl rfl rfl (by kernel_rfl) Try.func9 (by kernel_rfl)
    (of_decide_eq_true (by kernel_rfl)) (by unfold Func.isWrapper; first | (rw [if_pos (by decide +kernel)]; kernel_rfl) | (rw [if_neg (by decide +kernel)]; exact ⟨rfl, rfl⟩))
    (fun os started H enc _ => lifted os started H enc)

/-- the statement -/
theorem proved : Rows.Utf8PrintableSaid := over
#print axioms proved

end Go.Proofs.Ytefncnmahimgpaa.printables
