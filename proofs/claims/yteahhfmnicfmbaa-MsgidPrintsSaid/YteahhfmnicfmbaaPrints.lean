/- For every identity, Print returns its message identifier, and Parse is its inverse. No condition. -/
import Derived.Test.YteahhfmnicfmbaaRows
import Derived.Test.YteahhfmnicfmbaaKnown
import Derived.Test.YteahhfmnicfmbaaOpenId
import Derived.WalkKit
import Derived.WalkSpells
import Derived.WalkLawsBesides
import Derived.ProofKit
import Derived.OpenShut
import Derived.ShutString
import Derived.ChangeOld
import Derived.Below
import Derived.Lib.Hide
namespace Go.Proofs.Yteahhfmnicfmbaa.prints
open Go.ChangeShapes Go.WideShapes Go.ChangeAt Go.RowKit
open Go.ChangeMaps (open_string shut_string)

set_option maxHeartbeats 1600000 in
theorem prints_walk (b : List UInt8) (hb : b.length = 32) (w : World) :
    Calls Try.prog 3 #[idv b] w fun e w' => e = .returned (.bool true) ∧ Below w.heap.size w w' := by
  have HB := Lib.hid hb
  have HI := Lib.hid (idInfoL b hb)
  have hq := fun w => id_eql b b hb hb w
  clear hb
  go_enter Try.func3, Try.ntmps3
  have H0 : Hid ((w.alloc (.cells (Lib.byteCells b).toArray 23)).heap[w.heap.size]? = some (.cells (Lib.byteCells b).toArray 23 (0, 0))) := Lib.hid (heap_alloc_new w _)
  go_wp2_with (refine wpList_load_abs (by rfl) 23 (.tmp 1) (by rfl) w.heap.size (by rfl) _ _ _ _ H0.out Try.underlying23 rfl HI.out ?_)
  have b0 : Below w.heap.size w (w.alloc (.cells (Lib.byteCells b).toArray 23)) := (Below.refl _ w).alloc (Nat.le_refl _) _
  refine (print_any b HB.out _).mono ?_
  rintro e w1 ⟨rfl, b1⟩
  have H1 := Lib.hid (heap_below b1 (by simp) H0.out)
  have c1 := b0.trans (b1.mono b0.size)
  clear H0 b0 b1
  go_wp2_with fail
  refine (parse_print b HB.out _).mono ?_
  rintro e w2 ⟨rfl, b2⟩
  have hlt : w.heap.size < w1.heap.size := (Array.getElem?_eq_some_iff.1 H1.out).1
  have H2 := Lib.hid (heap_below b2 hlt H1.out)
  have c2 := c1.trans (b2.mono c1.size)
  have hlt2 : w.heap.size < w2.heap.size := (Array.getElem?_eq_some_iff.1 H2.out).1
  have HQ : Hid ((w2.alloc (.cells (Lib.byteCells zeroL).toArray 23)).heap[w2.heap.size]? = some (.cells (Lib.byteCells zeroL).toArray 23 (0, 0))) := Lib.hid (heap_alloc_new w2 _)
  have HZ : Hid ((Lib.byteCells zeroL).toArray.size = (Lib.byteCells b).toArray.size) := Lib.hid (by have := HB.out; simp [Lib.byteCells_length, zeroL, this])
  clear H1 c1 b2 hlt
  go_wp2_with (refine wpList_store_abs (by rfl) 23 (.tmp 4) (.tmp 12) (by rfl) w2.heap.size (Lib.byteCells b).toArray (by rfl) (by rfl) _ (Lib.byteCells zeroL).toArray HQ.out HI.out HZ.out (bytes_one _) w.heap.size w (c2.alloc c2.size _) c2.size ?_)
  intro w3 h3 b3 o3
  have H3 : Hid (w3.heap[w.heap.size]? = some (.cells (Lib.byteCells b).toArray 23 (0, 0))) := Lib.hid ((o3.out _ (by omega)).trans (heap_alloc_old' H2.out))
  clear H2 HQ HZ c2 o3
  go_wp2_with fail
  refine (known_any _).mono ?_
  rintro e w4 ⟨rfl, b4⟩
  have H4 := Lib.hid (heap_below b4 (Array.getElem?_eq_some_iff.1 H3.out).1 H3.out)
  have G4 := Lib.hid (heap_below b4 (Array.getElem?_eq_some_iff.1 h3.out).1 h3.out)
  have c4 := b3.trans (b4.mono b3.size)
  clear H3 h3 b3 b4
  go_wp2_with (refine wpList_load_abs (by rfl) 23 (.tmp 1) (by rfl) w.heap.size (by rfl) _ _ _ _ H4.out Try.underlying23 rfl HI.out ?_)
  refine (refprint_any b HB.out _).mono ?_
  rintro e w5 ⟨rfl, b5⟩
  have H5 := Lib.hid (heap_below b5 (Array.getElem?_eq_some_iff.1 H4.out).1 H4.out)
  have G5 := Lib.hid (heap_below b5 (Array.getElem?_eq_some_iff.1 G4.out).1 G4.out)
  have c5 := c4.trans (b5.mono c4.size)
  clear H4 G4 c4 b5
  go_wp2_with (first | (refine wpList_load_abs (by rfl) 23 (.tmp 1) (by rfl) w.heap.size (by rfl) _ _ _ _ H5.out Try.underlying23 rfl HI.out ?_) | (refine wpList_load_abs (by rfl) 23 (.tmp 4) (by rfl) w2.heap.size (by rfl) _ _ _ _ G5.out Try.underlying23 rfl HI.out ?_))
  go_ret
  exact ⟨rfl, c5⟩

theorem own : ownKnob Try.prog.godebug = none := by kernel_rfl
theorem laidOut : laidOutB Try.prog = true := by kernel_rfl

set_option maxRecDepth 100000 in
theorem lifted (os : Os) (started : os.Started) (H : Type) (enc : TypeId × Value → H) :
    ReturnsInHanded {} Try.checked os 3 .any (Rows.msgidPrintsSpec.pre6 enc Try.prog Try.f3 Rows.msgidPrintsRow.domain false) (Rows.msgidPrintsSpec.post enc Try.prog Try.f3 false true false false) := by
  refine returnsInHanded_of_change (C := Try.checked) own started (by kernel_rfl) Try.func3
    (ChangeSpec.witness6 (enc := enc) (C := Try.checked) false ⟨#[], #[.agg #[.int .u8 0, .int .u8 0, .int .u8 0, .int .u8 0, .int .u8 0, .int .u8 0, .int .u8 0, .int .u8 0, .int .u8 0, .int .u8 0, .int .u8 0, .int .u8 0, .int .u8 0, .int .u8 0, .int .u8 0, .int .u8 0, .int .u8 0, .int .u8 0, .int .u8 0, .int .u8 0, .int .u8 0, .int .u8 0, .int .u8 0, .int .u8 0, .int .u8 0, .int .u8 0, .int .u8 0, .int .u8 0, .int .u8 0, .int .u8 0, .int .u8 0, .int .u8 0]], []⟩ 8 (by kernel_rfl) (by kernel_rfl) (by kernel_rfl) (by kernel_rfl)) ?_
  intro W base args ds gs before hval0 hW hcnd _
  have hval : ∀ (j : Nat) t v, Try.f3.params[j]? = some t → args[j]? = some v → Value.okWide Try.prog W .any base t v := hval0
  have hW' := hW
  obtain ⟨p, q, hA0, hV, rfl, hfz, hnd⟩ := hW
  have hA : DataW.TrodAll enc Try.prog W 0 (fun _ => true) true Try.f3.params.toList args.toList ds p := hA0
  rw [Try.params3] at hA hval
  obtain ⟨v0, vs0, d0, ds0, p0, q0, hargs, rfl, rfl, h0, r0⟩ := trodAll_cons hA
  obtain ⟨rfl, rfl, rfl⟩ := trodAll_nil r0
  obtain rfl : args = #[v0] := by cases args; simp_all
  obtain ⟨rfl, rfl⟩ := trodVars_none hV
  have k0 := h0
  have lt0 : ∀ x ∈ p0, x.block < W.heap.size := by obtain ⟨m, hm⟩ := k0; exact DataW.trod_lt m _ _ _ hm
  obtain ⟨a0, w0, rfl⟩ := open_bytes Try.underlying23 Try.underlying5 (by kernel_rfl) (by kernel_rfl) (hval 0 23 v0 rfl rfl) h0
  clear hA0 hval0
  refine (prints_walk a0 w0 W).mono fun e W' ⟨he, bel⟩ => ?_
  subst he
  exact ⟨_, rfl, _, _, _, [], _, [], hW', trodAll_mk1 (shut_bool Try.underlying4 _), (trodAll_cons_mk (Below.trod laidOut (by kernel_rfl) (of_decide_eq_true (by kernel_rfl)) k0 bel lt0) trodAll_mk0), rfl, bel.frame _, fun h => by cases h⟩

theorem over : Rows.msgidPrintsRow.holds Try.pinned (OpenSpec.ofChange Rows.msgidPrintsSpec) :=
  OpenClaim.holds_of_wide 3 Try.f3 rfl rfl rfl rfl rfl rfl rfl ⟨rfl, rfl, rfl, rfl, rfl⟩ rfl rfl rfl rfl rfl (by kernel_rfl) Try.func3 (by kernel_rfl)
    (of_decide_eq_true (by kernel_rfl)) (by unfold Func.isWrapper; first | (rw [if_pos (by decide +kernel)]; kernel_rfl) | (rw [if_neg (by decide +kernel)]; exact ⟨rfl, rfl⟩))
    (fun os started H enc _ => lifted os started H enc)

/-- the statement -/
theorem proved : Rows.MsgidPrintsSaid := over
#print axioms proved
end Go.Proofs.Yteahhfmnicfmbaa.prints
