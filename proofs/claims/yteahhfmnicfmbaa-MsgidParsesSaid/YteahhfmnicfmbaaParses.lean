/- For every text of up to 200 bytes, Parse returns the identity, or the offset and the kind of the first error; what it accepts is printed unchanged. No condition. -/
import Derived.Test.YteahhfmnicfmbaaRows
import Derived.Test.YteahhfmnicfmbaaKnown
import Derived.Test.YteahhfmnicfmbaaRefParseW
import Derived.WalkKit
import Derived.WalkSpells
import Derived.WalkLawsBesides
import Derived.ProofKit
import Derived.OpenShut
import Derived.ShutString
import Derived.ChangeOld
import Derived.Below
import Derived.Lib.Hide
namespace Go.Proofs.Yteahhfmnicfmbaa.parses
open Go.ChangeShapes Go.WideShapes Go.ChangeAt Go.RowKit
open Go.ChangeMaps (open_string shut_string)

theorem none_of_fst1 {p : Nat → Bool} {n : Nat} (h : fst1 p n = none) : NoneBelow p n := by
  unfold fst1 at h
  rw [List.find?_eq_none] at h
  intro j hj
  have := h j (List.mem_range.2 hj)
  simpa using this
theorem fst1_lt {p : Nat → Bool} {n k : Nat} (h : fst1 p n = some k) : k < n ∧ p k = true := by
  unfold fst1 at h
  exact ⟨by have := List.mem_of_find?_eq_some h; simpa using this, List.find?_some h⟩
/-- what Parse accepts is printed unchanged -/
theorem print_parse (l : List UInt8) (hl : l.length = 71) (hn : NoneBelow (badAt l) 71) : printL (parseId l) = l := by
  have hp := parseId_length l
  have hx := hexL_parseId l hl hn
  refine eq_of_byt _ _ (by rw [printL_length _ hp, hl]) (fun i hi => ?_)
  rw [printL_length _ hp] at hi
  by_cases h : 1 ≤ i ∧ i < 65
  · obtain ⟨j, rfl⟩ : ∃ j, i = 1 + j := ⟨i - 1, by omega⟩
    rw [printL, List.append_assoc, show 1 + j = openL.length + j from rfl, byt_append_right, byt_append_left _ _ _ (by rw [hexL_length]; omega), hx]
    rw [byt_get, byt_get, List.getElem?_take, if_pos (by omega), List.getElem?_drop]
    rfl
  · have hb := hn i hi
    rw [badAt, if_neg h] at hb
    have hb' : byt l i = byt formL i := by simpa using hb
    rw [hb', print_edge (parseId l) zeroL hp rfl i h, formL]
theorem parse_ok (l : List UInt8) : (parseE l).1.length = 32 ∧ ((parseE l).2.2 = 0 → printL (parseE l).1 = l ∧ (parseE l).2.1 = 0) ∧ ((parseE l).2.2 ≠ 0 → (parseE l).1 = zeroL) := by
  unfold parseE
  cases hf : fst1 (badAt l) (min l.length 71) with
  | some i => exact ⟨rfl, fun h => by simp at h, fun _ => rfl⟩
  | none =>
    by_cases h1 : l.length < 71
    · simp only [if_pos h1]; exact ⟨rfl, fun h => by simp at h, fun _ => trivial⟩
    · by_cases h2 : 71 < l.length
      · simp only [if_neg h1, if_pos h2]; exact ⟨rfl, fun h => by simp at h, fun _ => trivial⟩
      · simp only [if_neg h1, if_neg h2]
        have hl : l.length = 71 := by omega
        rw [hl] at hf
        exact ⟨parseId_length l, fun _ => ⟨print_parse l hl (none_of_fst1 hf), trivial⟩, fun h => absurd rfl h⟩

set_option maxHeartbeats 1600000 in
theorem parses_walk (s : ByteArray) (hs : s.size ≤ maxLen) (w : World) :
    Calls Try.prog 4 #[.string s] w fun e w' => e = .returned (.bool true) ∧ Below w.heap.size w w' := by
  have hsm := hs
  unfold maxLen at hs
  go_enter Try.func4, Try.ntmps4
  go_wp2_with fail
  generalize (min (s.size : Int) 200).toNat = n
  have hx : (s.extract 0 n).size ≤ maxLen := by unfold maxLen; rw [ByteArray.size_extract]; omega
  generalize s.extract 0 n = t at *
  have hok := parse_ok t.data.toList
  refine (parse_any t hx _).mono ?_
  rintro e w1 ⟨rfl, b1⟩
  have hts : ∀ b, printL b = t.data.toList → t = ⟨(printL b).toArray⟩ := fun b h => by rw [h]
  have HTS := Lib.hid hts
  have HR := Lib.hid (refparse_any t hx)
  clear hts
  unfold parseV at *
  generalize parseE t.data.toList = p at *
  obtain ⟨b, at0, e0⟩ := p
  obtain ⟨hb, hz, hnz⟩ := hok
  dsimp only at *
  have HB := Lib.hid hb
  have HI := Lib.hid (idInfoL b hb)
  have HJ := Lib.hid (refIdInfoL b hb)
  have hq := fun w => refid_eql b b hb hb w
  have HZ : Hid ((Lib.byteCells zeroL).toArray.size = (Lib.byteCells b).toArray.size) := Lib.hid (by simp [Lib.byteCells_length, zeroL, hb])
  have HO := Lib.hid hz
  clear hb hz hnz
  have HQ : Hid ((w1.alloc (.cells (Lib.byteCells zeroL).toArray 23)).heap[w1.heap.size]? = some (.cells (Lib.byteCells zeroL).toArray 23 (0, 0))) := Lib.hid (heap_alloc_new w1 _)
  go_wp2_with (refine wpList_store_abs (by rfl) 23 (.tmp 3) (.tmp 17) (by rfl) w1.heap.size (Lib.byteCells b).toArray (by rfl) (by rfl) _ (Lib.byteCells zeroL).toArray HQ.out HI.out HZ.out (bytes_one _) w.heap.size w (b1.alloc b1.size _) b1.size ?_)
  intro w3 h3 b3 o3
  clear HQ o3 b1
  go_wp2_with fail
  refine (HR.out _).mono ?_
  rintro e w4 ⟨rfl, b4⟩
  have hlt := (Array.getElem?_eq_some_iff.1 h3.out).1
  have H4 := Lib.hid (heap_below b4 hlt h3.out)
  have c4 := b3.trans (b4.mono b3.size)
  have hlt4 := (Array.getElem?_eq_some_iff.1 H4.out).1
  clear h3 b3 b4 HR hlt
  have HQ : Hid ((w4.alloc (.cells (Lib.byteCells zeroL).toArray 30)).heap[w4.heap.size]? = some (.cells (Lib.byteCells zeroL).toArray 30 (0, 0))) := Lib.hid (heap_alloc_new w4 _)
  go_wp2_with (refine wpList_store_abs (by rfl) 30 (.tmp 6) (.tmp 23) (by rfl) w4.heap.size (Lib.byteCells b).toArray (by rfl) (by rfl) _ (Lib.byteCells zeroL).toArray HQ.out HJ.out HZ.out (bytes_one _) w.heap.size w (c4.alloc c4.size _) c4.size ?_)
  intro w5 h5 b5 o5
  have H5 := Lib.hid ((o5.out _ (by omega)).trans (heap_alloc_old' H4.out))
  clear HQ H4 o5 c4 hlt4
  go_wp2_with fail
  refine (known_any _).mono ?_
  rintro e w6 ⟨rfl, b6⟩
  have H6 := Lib.hid (heap_below b6 (Array.getElem?_eq_some_iff.1 H5.out).1 H5.out)
  have G6 := Lib.hid (heap_below b6 (Array.getElem?_eq_some_iff.1 h5.out).1 h5.out)
  have c6 := b5.trans (b6.mono b5.size)
  clear H5 h5 b5 b6
  by_cases he : e0 = 0
  · have ht := HTS.out b (HO.out he).1
    have heb : ((e0 : Int) != 0) = false := by simp [he]
    have HT := Lib.hid ht
    clear ht he
    go_wp2_with (first | (refine wpList_load_abs (by rfl) 23 (.tmp 3) (by rfl) w1.heap.size (by rfl) _ _ _ _ H6.out Try.underlying23 rfl HI.out ?_) | (refine wpList_load_abs (by rfl) 30 (.tmp 6) (by rfl) w4.heap.size (by rfl) _ _ _ _ G6.out Try.underlying30 rfl HJ.out ?_))
    refine (print_any b HB.out _).mono ?_
    rintro e w7 ⟨rfl, b7⟩
    rw [HT.out]
    go_wp2
    go_ret
    exact ⟨rfl, c6.trans (b7.mono c6.size)⟩
  · have heb : ((e0 : Int) != 0) = true := by simp; omega
    go_wp2_with (first | (refine wpList_load_abs (by rfl) 23 (.tmp 3) (by rfl) w1.heap.size (by rfl) _ _ _ _ H6.out Try.underlying23 rfl HI.out ?_) | (refine wpList_load_abs (by rfl) 30 (.tmp 6) (by rfl) w4.heap.size (by rfl) _ _ _ _ G6.out Try.underlying30 rfl HJ.out ?_))
    go_ret
    exact ⟨rfl, c6⟩

theorem own : ownKnob Try.prog.godebug = none := by kernel_rfl
theorem laidOut : laidOutB Try.prog = true := by kernel_rfl

set_option maxRecDepth 100000 in
theorem lifted (os : Os) (started : os.Started) (H : Type) (enc : TypeId × Value → H) :
    ReturnsInHanded {} Try.checked os 4 .any (Rows.msgidParsesSpec.pre6 enc Try.prog Try.f4 Rows.msgidParsesRow.domain false) (Rows.msgidParsesSpec.post enc Try.prog Try.f4 false true false false) := by
  refine returnsInHanded_of_change (C := Try.checked) own started (by kernel_rfl) Try.func4
    (ChangeSpec.witness6 (enc := enc) (C := Try.checked) false ⟨#[], #[.string ByteArray.empty], []⟩ 8 (by kernel_rfl) (by kernel_rfl) (by kernel_rfl) (by kernel_rfl)) ?_
  intro W base args ds gs before hval0 hW hcnd _
  have hval : ∀ (j : Nat) t v, Try.f4.params[j]? = some t → args[j]? = some v → Value.okWide Try.prog W .any base t v := hval0
  have hW' := hW
  obtain ⟨p, q, hA0, hV, rfl, hfz, hnd⟩ := hW
  have hA : DataW.TrodAll enc Try.prog W 0 (fun _ => true) true Try.f4.params.toList args.toList ds p := hA0
  rw [Try.params4] at hA hval
  obtain ⟨v0, vs0, d0, ds0, p0, q0, hargs, rfl, rfl, h0, r0⟩ := trodAll_cons hA
  obtain ⟨rfl, rfl, rfl⟩ := trodAll_nil r0
  obtain rfl : args = #[v0] := by cases args; simp_all
  obtain ⟨rfl, rfl⟩ := trodVars_none hV
  have k0 := h0
  have lt0 : ∀ x ∈ p0, x.block < W.heap.size := by obtain ⟨m, hm⟩ := k0; exact DataW.trod_lt m _ _ _ hm
  obtain ⟨a0, rfl, rfl, rfl, w0⟩ := open_string Try.underlying9 (hval 0 9 v0 rfl rfl) h0
  clear hA0 hval0
  refine (parses_walk a0 w0 W).mono fun e W' ⟨he, bel⟩ => ?_
  subst he
  exact ⟨_, rfl, _, _, _, [], _, [], hW', trodAll_mk1 (shut_bool Try.underlying4 _), (trodAll_cons_mk (Below.trod laidOut (by kernel_rfl) (of_decide_eq_true (by kernel_rfl)) k0 bel lt0) trodAll_mk0), rfl, bel.frame _, fun h => by cases h⟩

theorem over : Rows.msgidParsesRow.holds Try.pinned (OpenSpec.ofChange Rows.msgidParsesSpec) :=
  OpenClaim.holds_of_wide 4 Try.f4 rfl rfl rfl rfl rfl rfl rfl ⟨rfl, rfl, rfl, rfl, rfl⟩ rfl rfl rfl rfl rfl (by kernel_rfl) Try.func4 (by kernel_rfl)
    (of_decide_eq_true (by kernel_rfl)) (by unfold Func.isWrapper; first | (rw [if_pos (by decide +kernel)]; kernel_rfl) | (rw [if_neg (by decide +kernel)]; exact ⟨rfl, rfl⟩))
    (fun os started H enc _ => lifted os started H enc)

/-- the statement -/
theorem proved : Rows.MsgidParsesSaid := over
#print axioms proved
end Go.Proofs.Yteahhfmnicfmbaa.parses
