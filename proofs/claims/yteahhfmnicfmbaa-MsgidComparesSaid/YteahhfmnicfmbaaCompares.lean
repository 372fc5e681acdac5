/- For every two identities, Compare orders them byte by byte, which is the order of their message identifiers. No condition. -/
import Derived.Test.YteahhfmnicfmbaaRows
import Derived.Test.YteahhfmnicfmbaaKnown
import Derived.Test.YteahhfmnicfmbaaOpenId
import Derived.WalkKit
import Derived.WalkSpells
import Derived.WalkLawsBesides
import Derived.ProofKit
import Derived.OpenShut
import Derived.ShutString
import Derived.ChangeOld
import Derived.Below
import Derived.Lib.Hide
import Derived.Deep.QuietTactic
import Derived.BigQuiet
import Derived.Test.YteahhfmnicfmbaaQClass
import Derived.Test.YteahhfmnicfmbaaOrder
import Derived.Outline
namespace Go.Proofs.Yteahhfmnicfmbaa.compares
open Go.ChangeShapes Go.WideShapes Go.ChangeAt Go.RowKit
open Go.ChangeMaps (open_string shut_string)

/-- the three identities lie where they lay -/
structure IdsIn (a c b : List UInt8) (g1 g2 : Nat) (w0 w : World) : Prop where
  a : w.heap[g1]? = some (.cells (Lib.byteCells a).toArray 23 (0, 0))
  c : w.heap[g1 + 1]? = some (.cells (Lib.byteCells c).toArray 23 (0, 0))
  b : w.heap[g2]? = some (.cells (Lib.byteCells b).toArray 23 (0, 0))
  bel : Below w0.heap.size w0 w
theorem IdsIn.below {a c b : List UInt8} {g1 g2 : Nat} {w0 w w' : World} (h : IdsIn a c b g1 g2 w0 w) (hb : Below w.heap.size w w') : IdsIn a c b g1 g2 w0 w' :=
  ⟨heap_below hb (Array.getElem?_eq_some_iff.1 h.a).1 h.a, heap_below hb (Array.getElem?_eq_some_iff.1 h.c).1 h.c, heap_below hb (Array.getElem?_eq_some_iff.1 h.b).1 h.b, h.bel.trans (hb.mono h.bel.size)⟩
theorem row_set (b : List UInt8) (i n : Nat) (hn : n < 256) : (Lib.byteCells b).toArray.setIfInBounds i (.int .u8 (n : Int)) = (Lib.byteCells (b.set i n.toUInt8)).toArray := by
  apply Array.ext'
  unfold Lib.byteCells
  simp [List.map_set]
  congr 2
  omega

set_option maxHeartbeats 1600000 in
theorem compares_walk (a : List UInt8) (ha : a.length = 32) (c : List UInt8) (hc : c.length = 32) (ch : List UInt8) (hch : ch.length = 2) (w : World) :
    Calls Try.prog 6 #[idv a, idv c, idv ch] w fun e w' => e = .returned (.bool true) ∧ Below w.heap.size w w' := by
  have HA := Lib.hid ha
  have HC := Lib.hid hc
  have HI := Lib.hid (idInfoL a ha)
  have HIC := Lib.hid (idInfoL c hc)
  obtain ⟨p, q, rfl⟩ : ∃ p q, ch = [p, q] := by
    match ch, hch with
    | [p, q], _ => exact ⟨p, q, rfl⟩
  have hp : p.toNat < 256 := UInt8.toNat_lt _
  have hqq : q.toNat < 256 := UInt8.toNat_lt _
  clear ha hc hch
  go_enter Try.func6, Try.ntmps6
  go_wp2_with fail
  have fA := heap_alloc_old' (o := .cells (Lib.byteCells [p, q]).toArray 37) (heap_alloc_old' (o := .cells (Lib.byteCells c).toArray 23) (heap_alloc_new w (.cells (Lib.byteCells a).toArray 23)))
  have fC := heap_alloc_old' (o := .cells (Lib.byteCells [p, q]).toArray 37) (heap_alloc_new (w.alloc (.cells (Lib.byteCells a).toArray 23)) (.cells (Lib.byteCells c).toArray 23))
  have fP := heap_alloc_new ((w.alloc (.cells (Lib.byteCells a).toArray 23)).alloc (.cells (Lib.byteCells c).toArray 23)) (.cells (Lib.byteCells [p, q]).toArray 37)
  have hb0 : Below w.heap.size w (((w.alloc (.cells (Lib.byteCells a).toArray 23)).alloc (.cells (Lib.byteCells c).toArray 23)).alloc (.cells (Lib.byteCells [p, q]).toArray 37)) := (((Below.refl _ w).alloc (Nat.le_refl _) _).alloc (by simp) _).alloc (by simp; omega) _
  have e1 : (w.alloc (.cells (Lib.byteCells a).toArray 23)).heap.size = w.heap.size + 1 := by simp
  have e2 : ((w.alloc (.cells (Lib.byteCells a).toArray 23)).alloc (.cells (Lib.byteCells c).toArray 23)).heap.size = w.heap.size + 1 + 1 := by simp
  rw [e1] at fC
  rw [e2] at fP
  generalize ((w.alloc (.cells (Lib.byteCells a).toArray 23)).alloc (.cells (Lib.byteCells c).toArray 23)).alloc (.cells (Lib.byteCells [p, q]).toArray 37) = w1 at *
  clear e1 e2
  have gP : w1.cell? ⟨w.heap.size + 1 + 1, 0, none⟩ = some (.int .u8 (p.toNat : Int)) := by rw [cell_of_row _ _ _ _ _ _ fP]; rfl
  have gQ : w1.cell? ⟨w.heap.size + 1 + 1, 1, none⟩ = some (.int .u8 (q.toNat : Int)) := by rw [cell_of_row _ _ _ _ _ _ fP]; rfl
  have FA := Lib.hid fA
  have FC := Lib.hid fC
  clear fA fC fP
  go_quiet (fail)
  have FA2 : Hid ((w1.drewN nq).heap[w.heap.size]? = some (.cells (Lib.byteCells a).toArray 23 (0, 0))) := Lib.hid FA.out
  have FC2 : Hid ((w1.drewN nq).heap[w.heap.size + 1]? = some (.cells (Lib.byteCells c).toArray 23 (0, 0))) := Lib.hid FC.out
  have hb2 : Below w.heap.size w (w1.drewN nq) := below_drewN hb0
  generalize w1.drewN nq = w2 at *
  clear FA FC hb0 gP gQ
  have hltA := (Array.getElem?_eq_some_iff.1 FA2.out).1
  have hltC := (Array.getElem?_eq_some_iff.1 FC2.out).1
  have HQ : Hid ((w2.alloc (.cells (Lib.byteCells zeroL).toArray 23)).heap[w2.heap.size]? = some (.cells (Lib.byteCells zeroL).toArray 23 (0, 0))) := Lib.hid (heap_alloc_new w2 _)
  have HZ : Hid ((Lib.byteCells zeroL).toArray.size = (Lib.byteCells a).toArray.size) := Lib.hid (by have := HA.out; simp [Lib.byteCells_length, zeroL, this])
  go_wp2_with (first | (refine wpList_load_abs (by rfl) 23 (.tmp 3) (by rfl) w.heap.size (by rfl) _ _ _ _ FA2.out Try.underlying23 rfl HI.out ?_) | (refine wpList_store_abs (by rfl) 23 (.tmp 9) (.tmp 17) (by rfl) w2.heap.size (Lib.byteCells a).toArray (by rfl) (by rfl) _ (Lib.byteCells zeroL).toArray HQ.out HI.out HZ.out (bytes_one _) w.heap.size w (hb2.alloc hb2.size _) hb2.size ?_))
  intro w3 h3 b3 o3
  have FA3 : Hid (w3.heap[w.heap.size]? = some (.cells (Lib.byteCells a).toArray 23 (0, 0))) := Lib.hid ((o3.out _ (by omega)).trans (heap_alloc_old' FA2.out))
  have FC3 : Hid (w3.heap[w.heap.size + 1]? = some (.cells (Lib.byteCells c).toArray 23 (0, 0))) := Lib.hid ((o3.out _ (by omega)).trans (heap_alloc_old' FC2.out))
  clear HQ o3 FA2 FC2 hb2
  have hx1 : (0 : Int) ≤ (p.toNat : Int) % 32 := by omega
  have hx2 : (p.toNat : Int) % 32 < 32 := by omega
  obtain ⟨k, hk⟩ : ∃ k : Nat, k = p.toNat % 32 := ⟨_, rfl⟩
  have hcell : w3.cell? ⟨w2.heap.size, p.toNat % 32, none⟩ = some (.int .u8 (byt a (p.toNat % 32))) := by
    rw [cell_of_row _ _ _ _ _ _ h3.out]
    simpa using byteCells_get a (p.toNat % 32) (by have := HA.out; omega)
  have hfz : w3.frozen? ⟨w2.heap.size, p.toNat % 32, none⟩ = false := frozen_of_row _ _ _ _ _ h3.out
  have hbt := byt_lt a (p.toNat % 32)
  go_wp2_with fail
  have hwf := bounds_u8 (wf_bits BinOp.xor IntKind.u8 ((byt a (p.toNat % 32) : Nat) : Int) ((q.toNat : Nat) : Int))
  obtain ⟨n, hn⟩ := Int.eq_ofNat_of_zero_le hwf.1
  rw [hn] at hwf ⊢
  have hw4a : Hid ((w3.setCell ⟨w2.heap.size, p.toNat % 32, none⟩ (.int .u8 (n : Int))).heap[w.heap.size]? = some (.cells (Lib.byteCells a).toArray 23 (0, 0))) := Lib.hid ((heap_setCell_other _ _ _ _ (by show w.heap.size ≠ w2.heap.size; omega)).trans FA3.out)
  have hw4c : Hid ((w3.setCell ⟨w2.heap.size, p.toNat % 32, none⟩ (.int .u8 (n : Int))).heap[w.heap.size + 1]? = some (.cells (Lib.byteCells c).toArray 23 (0, 0))) := Lib.hid ((heap_setCell_other _ _ _ _ (by show w.heap.size + 1 ≠ w2.heap.size; omega)).trans FC3.out)
  have hw4b : Hid ((w3.setCell ⟨w2.heap.size, p.toNat % 32, none⟩ (.int .u8 (n : Int))).heap[w2.heap.size]? = some (.cells (Lib.byteCells (a.set (p.toNat % 32) n.toUInt8)).toArray 23 (0, 0))) := Lib.hid (by rw [heap_setCell_same _ _ _ _ _ _ h3.out, row_set _ _ _ (by omega)])
  have hw4 : Below w.heap.size w (w3.setCell ⟨w2.heap.size, p.toNat % 32, none⟩ (.int .u8 (n : Int))) := b3.setCell (by show w.heap.size ≤ w2.heap.size; omega) _
  have hbl : Hid ((a.set (p.toNat % 32) n.toUInt8).length = 32) := Lib.hid (by rw [List.length_set]; exact HA.out)
  generalize w3.setCell ⟨w2.heap.size, p.toNat % 32, none⟩ (.int .u8 (n : Int)) = w4 at *
  generalize a.set (p.toNat % 32) n.toUInt8 = b at *
  have HIB := Lib.hid (idInfoL b hbl.out)
  clear hcell hfz hbt hk hx1 hx2 h3 b3 FA3 FC3 hwf hn HZ
  have hC4 : IdsIn a c b w.heap.size w2.heap.size w w4.drew := ⟨hw4a.out, hw4c.out, hw4b.out, hw4.drew⟩
  refine wp_region_class (IdsIn a c b w.heap.size w2.heap.size w) (by kernel_rfl) (by kernel_rfl) hC4 (fun hne => ?_)
  have HLA : Hid (∀ s : WIn (IdsIn a c b w.heap.size w2.heap.size w), s.w.heap[w.heap.size]? = some (.cells (Lib.byteCells a).toArray 23 (0, 0))) := Lib.hid (fun s => s.h.a)
  have HLC : Hid (∀ s : WIn (IdsIn a c b w.heap.size w2.heap.size w), s.w.heap[w.heap.size + 1]? = some (.cells (Lib.byteCells c).toArray 23 (0, 0))) := Lib.hid (fun s => s.h.c)
  have HLB : Hid (∀ s : WIn (IdsIn a c b w.heap.size w2.heap.size w), s.w.heap[w2.heap.size]? = some (.cells (Lib.byteCells b).toArray 23 (0, 0))) := Lib.hid (fun s => s.h.b)
  repeat (first
    | (go_big_quiet_want; refine quiet_load_row 23 (.tmp 3) (by rfl) w.heap.size (by rfl) _ _ _ _ HLA.out Try.underlying23 rfl HI.out ?_; simp only [Act.put, List.setIfInBounds_toArray, List.set_cons_zero, List.set_cons_succ]; go_big_quiet_on)
    | (go_big_quiet_want; refine quiet_load_row 23 (.tmp 9) (by rfl) w2.heap.size (by rfl) _ _ _ _ HLB.out Try.underlying23 rfl HIB.out ?_; simp only [Act.put, List.setIfInBounds_toArray, List.set_cons_zero, List.set_cons_succ]; go_big_quiet_on)
    | go_big_quiet_skip
    | (go_big_quiet_want; go_big_quiet_op; go_big_quiet_on)
    | (go_big_quiet_want; go_big_quiet_op; apply Exists.intro; refine ⟨fun sc => ?_, ?_⟩; (first
        | (go_at_call_of 8 (Value.agg (Lib.byteCells a).toArray); exact calls_class (print_any a HA.out sc.w) (fun _ hb => IdsIn.below sc.h hb))
        | (go_at_call_of 8 (Value.agg (Lib.byteCells b).toArray); exact calls_class (print_any b hbl.out sc.w) (fun _ hb => IdsIn.below sc.h hb))); go_big_quiet_on))
  refine wpQuiet_nil ?_
  intro w5 h5
  clear HLA HLB HLC hne hC4
  have hp := printL_length a HA.out
  have hA1 : (⟨(printL a).toArray⟩ : ByteArray).toList = printL a := by rw [ByteArray.toList_eq]
  have hB1 : (⟨(printL b).toArray⟩ : ByteArray).toList = printL b := by rw [ByteArray.toList_eq]
  have hl1 : Op.bytesLess (⟨(printL a).toArray⟩ : ByteArray).toList (⟨(printL b).toArray⟩ : ByteArray).toList = decide (Lib.compareBytes a b = -1) := by
    rw [hA1, hB1, less_cmp, cmp_print a b (HA.out.trans hbl.out.symm)]
  have hl2 : ((⟨(printL a).toArray⟩ : ByteArray).toList == (⟨(printL b).toArray⟩ : ByteArray).toList) = decide (Lib.compareBytes a b = 0) := by
    rw [hA1, hB1, eq_cmp, cmp_print a b (HA.out.trans hbl.out.symm)]
  have hr := cmp_range a b
  have hsw := cmp_swap a b
  clear hA1 hB1 hp
  generalize (⟨(printL a).toArray⟩ : ByteArray) = X at *
  generalize (⟨(printL b).toArray⟩ : ByteArray) = Y at *
  have HA2 := HA.out
  have hCab := fun w => compare_any a b HA.out hbl.out w
  have hCba := fun w => compare_any b a hbl.out HA.out w
  rw [hsw] at hCba
  have HCAB := Lib.hid hCab
  have HCBA := Lib.hid hCba
  clear hCab hCba hsw HA2
  rcases hr with hr | hr | hr
  · rw [hr] at HCAB HCBA hl1 hl2
    have f1 : Op.bytesLess X.toList Y.toList = true := by rw [hl1]; rfl
    have f2 : (X.toList == Y.toList) = false := by rw [hl2]; rfl
    clear hl1 hl2 hr
    go_wp2
    have hC5 : IdsIn a c b w.heap.size w2.heap.size w w5.drew := ⟨h5.a, h5.c, h5.b, h5.bel.drew⟩
    refine wp_region_class (IdsIn a c b w.heap.size w2.heap.size w) (by kernel_rfl) (by kernel_rfl) hC5 (fun hne => ?_)
    have HLA : Hid (∀ s : WIn (IdsIn a c b w.heap.size w2.heap.size w), s.w.heap[w.heap.size]? = some (.cells (Lib.byteCells a).toArray 23 (0, 0))) := Lib.hid (fun s => s.h.a)
    have HLC : Hid (∀ s : WIn (IdsIn a c b w.heap.size w2.heap.size w), s.w.heap[w.heap.size + 1]? = some (.cells (Lib.byteCells c).toArray 23 (0, 0))) := Lib.hid (fun s => s.h.c)
    have HLB : Hid (∀ s : WIn (IdsIn a c b w.heap.size w2.heap.size w), s.w.heap[w2.heap.size]? = some (.cells (Lib.byteCells b).toArray 23 (0, 0))) := Lib.hid (fun s => s.h.b)
    have hz := fun w => id_eql_zero a HA.out w
    repeat (first
      | (go_big_quiet_want; refine quiet_load_row 23 (.tmp 3) (by rfl) w.heap.size (by rfl) _ _ _ _ HLA.out Try.underlying23 rfl HI.out ?_; simp only [Act.put, List.setIfInBounds_toArray, List.set_cons_zero, List.set_cons_succ]; go_big_quiet_on)
      | (go_big_quiet_want; refine quiet_load_row 23 (.tmp 4) (by rfl) (w.heap.size + 1) (by rfl) _ _ _ _ HLC.out Try.underlying23 rfl HIC.out ?_; simp only [Act.put, List.setIfInBounds_toArray, List.set_cons_zero, List.set_cons_succ]; go_big_quiet_on)
      | (go_big_quiet_want; refine quiet_load_row 23 (.tmp 9) (by rfl) w2.heap.size (by rfl) _ _ _ _ HLB.out Try.underlying23 rfl HIB.out ?_; simp only [Act.put, List.setIfInBounds_toArray, List.set_cons_zero, List.set_cons_succ]; go_big_quiet_on)
      | go_big_quiet_skip
      | (go_big_quiet_want; go_big_quiet_op; go_big_quiet_on)
      | (go_big_quiet_want; go_big_quiet_op; apply Exists.intro; refine ⟨fun sc => ?_, ?_⟩; (first
          | (go_at_call 10; exact calls_class (known_any sc.w) (fun _ hb => IdsIn.below sc.h hb))
          | (go_at_call 14; first | exact calls_class (HCAB.out sc.w) (fun _ hb => IdsIn.below sc.h hb) | exact calls_class (HCBA.out sc.w) (fun _ hb => IdsIn.below sc.h hb) | exact calls_class (compare_any a c HA.out HC.out sc.w) (fun _ hb => IdsIn.below sc.h hb))
          | (go_at_call 15; exact calls_class (refcompare_any a c HA.out HC.out sc.w) (fun _ hb => IdsIn.below sc.h hb))
          | (go_at_call 13; exact calls_class (isZero_any a HA.out sc.w) (fun _ hb => IdsIn.below sc.h hb))); go_big_quiet_on))
    refine wpQuiet_nil ?_
    intro w6 h6
    go_wp2
    go_ret
    exact ⟨ret_bool (by simp), h6.bel⟩
  · rw [hr] at HCAB HCBA hl1 hl2
    have f1 : Op.bytesLess X.toList Y.toList = false := by rw [hl1]; rfl
    have f2 : (X.toList == Y.toList) = true := by rw [hl2]; rfl
    clear hl1 hl2 hr
    go_wp2
    have hC5 : IdsIn a c b w.heap.size w2.heap.size w w5.drew := ⟨h5.a, h5.c, h5.b, h5.bel.drew⟩
    refine wp_region_class (IdsIn a c b w.heap.size w2.heap.size w) (by kernel_rfl) (by kernel_rfl) hC5 (fun hne => ?_)
    have HLA : Hid (∀ s : WIn (IdsIn a c b w.heap.size w2.heap.size w), s.w.heap[w.heap.size]? = some (.cells (Lib.byteCells a).toArray 23 (0, 0))) := Lib.hid (fun s => s.h.a)
    have HLC : Hid (∀ s : WIn (IdsIn a c b w.heap.size w2.heap.size w), s.w.heap[w.heap.size + 1]? = some (.cells (Lib.byteCells c).toArray 23 (0, 0))) := Lib.hid (fun s => s.h.c)
    have HLB : Hid (∀ s : WIn (IdsIn a c b w.heap.size w2.heap.size w), s.w.heap[w2.heap.size]? = some (.cells (Lib.byteCells b).toArray 23 (0, 0))) := Lib.hid (fun s => s.h.b)
    have hz := fun w => id_eql_zero a HA.out w
    repeat (first
      | (go_big_quiet_want; refine quiet_load_row 23 (.tmp 3) (by rfl) w.heap.size (by rfl) _ _ _ _ HLA.out Try.underlying23 rfl HI.out ?_; simp only [Act.put, List.setIfInBounds_toArray, List.set_cons_zero, List.set_cons_succ]; go_big_quiet_on)
      | (go_big_quiet_want; refine quiet_load_row 23 (.tmp 4) (by rfl) (w.heap.size + 1) (by rfl) _ _ _ _ HLC.out Try.underlying23 rfl HIC.out ?_; simp only [Act.put, List.setIfInBounds_toArray, List.set_cons_zero, List.set_cons_succ]; go_big_quiet_on)
      | (go_big_quiet_want; refine quiet_load_row 23 (.tmp 9) (by rfl) w2.heap.size (by rfl) _ _ _ _ HLB.out Try.underlying23 rfl HIB.out ?_; simp only [Act.put, List.setIfInBounds_toArray, List.set_cons_zero, List.set_cons_succ]; go_big_quiet_on)
      | go_big_quiet_skip
      | (go_big_quiet_want; go_big_quiet_op; go_big_quiet_on)
      | (go_big_quiet_want; go_big_quiet_op; apply Exists.intro; refine ⟨fun sc => ?_, ?_⟩; (first
          | (go_at_call 10; exact calls_class (known_any sc.w) (fun _ hb => IdsIn.below sc.h hb))
          | (go_at_call 14; first | exact calls_class (HCAB.out sc.w) (fun _ hb => IdsIn.below sc.h hb) | exact calls_class (HCBA.out sc.w) (fun _ hb => IdsIn.below sc.h hb) | exact calls_class (compare_any a c HA.out HC.out sc.w) (fun _ hb => IdsIn.below sc.h hb))
          | (go_at_call 15; exact calls_class (refcompare_any a c HA.out HC.out sc.w) (fun _ hb => IdsIn.below sc.h hb))
          | (go_at_call 13; exact calls_class (isZero_any a HA.out sc.w) (fun _ hb => IdsIn.below sc.h hb))); go_big_quiet_on))
    refine wpQuiet_nil ?_
    intro w6 h6
    go_wp2
    go_ret
    exact ⟨ret_bool (by simp), h6.bel⟩
  · rw [hr] at HCAB HCBA hl1 hl2
    have f1 : Op.bytesLess X.toList Y.toList = false := by rw [hl1]; rfl
    have f2 : (X.toList == Y.toList) = false := by rw [hl2]; rfl
    clear hl1 hl2 hr
    go_wp2
    have hC5 : IdsIn a c b w.heap.size w2.heap.size w w5.drew := ⟨h5.a, h5.c, h5.b, h5.bel.drew⟩
    refine wp_region_class (IdsIn a c b w.heap.size w2.heap.size w) (by kernel_rfl) (by kernel_rfl) hC5 (fun hne => ?_)
    have HLA : Hid (∀ s : WIn (IdsIn a c b w.heap.size w2.heap.size w), s.w.heap[w.heap.size]? = some (.cells (Lib.byteCells a).toArray 23 (0, 0))) := Lib.hid (fun s => s.h.a)
    have HLC : Hid (∀ s : WIn (IdsIn a c b w.heap.size w2.heap.size w), s.w.heap[w.heap.size + 1]? = some (.cells (Lib.byteCells c).toArray 23 (0, 0))) := Lib.hid (fun s => s.h.c)
    have HLB : Hid (∀ s : WIn (IdsIn a c b w.heap.size w2.heap.size w), s.w.heap[w2.heap.size]? = some (.cells (Lib.byteCells b).toArray 23 (0, 0))) := Lib.hid (fun s => s.h.b)
    have hz := fun w => id_eql_zero a HA.out w
    repeat (first
      | (go_big_quiet_want; refine quiet_load_row 23 (.tmp 3) (by rfl) w.heap.size (by rfl) _ _ _ _ HLA.out Try.underlying23 rfl HI.out ?_; simp only [Act.put, List.setIfInBounds_toArray, List.set_cons_zero, List.set_cons_succ]; go_big_quiet_on)
      | (go_big_quiet_want; refine quiet_load_row 23 (.tmp 4) (by rfl) (w.heap.size + 1) (by rfl) _ _ _ _ HLC.out Try.underlying23 rfl HIC.out ?_; simp only [Act.put, List.setIfInBounds_toArray, List.set_cons_zero, List.set_cons_succ]; go_big_quiet_on)
      | (go_big_quiet_want; refine quiet_load_row 23 (.tmp 9) (by rfl) w2.heap.size (by rfl) _ _ _ _ HLB.out Try.underlying23 rfl HIB.out ?_; simp only [Act.put, List.setIfInBounds_toArray, List.set_cons_zero, List.set_cons_succ]; go_big_quiet_on)
      | go_big_quiet_skip
      | (go_big_quiet_want; go_big_quiet_op; go_big_quiet_on)
      | (go_big_quiet_want; go_big_quiet_op; apply Exists.intro; refine ⟨fun sc => ?_, ?_⟩; (first
          | (go_at_call 10; exact calls_class (known_any sc.w) (fun _ hb => IdsIn.below sc.h hb))
          | (go_at_call 14; first | exact calls_class (HCAB.out sc.w) (fun _ hb => IdsIn.below sc.h hb) | exact calls_class (HCBA.out sc.w) (fun _ hb => IdsIn.below sc.h hb) | exact calls_class (compare_any a c HA.out HC.out sc.w) (fun _ hb => IdsIn.below sc.h hb))
          | (go_at_call 15; exact calls_class (refcompare_any a c HA.out HC.out sc.w) (fun _ hb => IdsIn.below sc.h hb))
          | (go_at_call 13; exact calls_class (isZero_any a HA.out sc.w) (fun _ hb => IdsIn.below sc.h hb))); go_big_quiet_on))
    refine wpQuiet_nil ?_
    intro w6 h6
    go_wp2
    go_ret
    exact ⟨ret_bool (by simp), h6.bel⟩

theorem own : ownKnob Try.prog.godebug = none := by kernel_rfl
theorem laidOut : laidOutB Try.prog = true := by kernel_rfl

set_option maxRecDepth 100000 in
theorem lifted (os : Os) (started : os.Started) (H : Type) (enc : TypeId × Value → H) :
    ReturnsInHanded {} Try.checked os 6 .any (Rows.msgidComparesSpec.pre6 enc Try.prog Try.f6 Rows.msgidComparesRow.domain false) (Rows.msgidComparesSpec.post enc Try.prog Try.f6 false true false false) := by
  refine returnsInHanded_of_change (C := Try.checked) own started (by kernel_rfl) Try.func6
    (ChangeSpec.witness6 (enc := enc) (C := Try.checked) false ⟨#[], #[.agg #[.int .u8 0, .int .u8 0, .int .u8 0, .int .u8 0, .int .u8 0, .int .u8 0, .int .u8 0, .int .u8 0, .int .u8 0, .int .u8 0, .int .u8 0, .int .u8 0, .int .u8 0, .int .u8 0, .int .u8 0, .int .u8 0, .int .u8 0, .int .u8 0, .int .u8 0, .int .u8 0, .int .u8 0, .int .u8 0, .int .u8 0, .int .u8 0, .int .u8 0, .int .u8 0, .int .u8 0, .int .u8 0, .int .u8 0, .int .u8 0, .int .u8 0, .int .u8 0], .agg #[.int .u8 0, .int .u8 0, .int .u8 0, .int .u8 0, .int .u8 0, .int .u8 0, .int .u8 0, .int .u8 0, .int .u8 0, .int .u8 0, .int .u8 0, .int .u8 0, .int .u8 0, .int .u8 0, .int .u8 0, .int .u8 0, .int .u8 0, .int .u8 0, .int .u8 0, .int .u8 0, .int .u8 0, .int .u8 0, .int .u8 0, .int .u8 0, .int .u8 0, .int .u8 0, .int .u8 0, .int .u8 0, .int .u8 0, .int .u8 0, .int .u8 0, .int .u8 0], .agg #[.int .u8 0, .int .u8 0]], []⟩ 8 (by kernel_rfl) (by kernel_rfl) (by kernel_rfl) (by kernel_rfl)) ?_
  intro W base args ds gs before hval0 hW hcnd _
  have hval : ∀ (j : Nat) t v, Try.f6.params[j]? = some t → args[j]? = some v → Value.okWide Try.prog W .any base t v := hval0
  have hW' := hW
  obtain ⟨p, q, hA0, hV, rfl, hfz, hnd⟩ := hW
  have hA : DataW.TrodAll enc Try.prog W 0 (fun _ => true) true Try.f6.params.toList args.toList ds p := hA0
  rw [Try.params6] at hA hval
  obtain ⟨v0, vs0, d0, ds0, p0, q0, hargs, rfl, rfl, h0, r0⟩ := trodAll_cons hA
  obtain ⟨v1, vs1, d1, ds1, p1, q1, rfl, rfl, rfl, h1, r1⟩ := trodAll_cons r0
  obtain ⟨v2, vs2, d2, ds2, p2, q2, rfl, rfl, rfl, h2, r2⟩ := trodAll_cons r1
  obtain ⟨rfl, rfl, rfl⟩ := trodAll_nil r2
  obtain rfl : args = #[v0, v1, v2] := by cases args; simp_all
  obtain ⟨rfl, rfl⟩ := trodVars_none hV
  have k0 := h0
  have lt0 : ∀ x ∈ p0, x.block < W.heap.size := by obtain ⟨m, hm⟩ := k0; exact DataW.trod_lt m _ _ _ hm
  have k1 := h1
  have lt1 : ∀ x ∈ p1, x.block < W.heap.size := by obtain ⟨m, hm⟩ := k1; exact DataW.trod_lt m _ _ _ hm
  have k2 := h2
  have lt2 : ∀ x ∈ p2, x.block < W.heap.size := by obtain ⟨m, hm⟩ := k2; exact DataW.trod_lt m _ _ _ hm
  obtain ⟨a0, w0, rfl⟩ := open_bytes Try.underlying23 Try.underlying5 (by kernel_rfl) (by kernel_rfl) (hval 0 23 v0 rfl rfl) h0
  obtain ⟨a1, w1, rfl⟩ := open_bytes Try.underlying23 Try.underlying5 (by kernel_rfl) (by kernel_rfl) (hval 1 23 v1 rfl rfl) h1
  obtain ⟨a2, w2, rfl⟩ := open_bytes Try.underlying37 Try.underlying5 (by kernel_rfl) (by kernel_rfl) (hval 2 37 v2 rfl rfl) h2
  clear hA0 hval0
  refine (compares_walk a0 w0 a1 w1 a2 w2 W).mono fun e W' ⟨he, bel⟩ => ?_
  subst he
  exact ⟨_, rfl, _, _, _, [], _, [], hW', trodAll_mk1 (shut_bool Try.underlying4 _), (trodAll_cons_mk (Below.trod laidOut (by kernel_rfl) (of_decide_eq_true (by kernel_rfl)) k0 bel lt0) (trodAll_cons_mk (Below.trod laidOut (by kernel_rfl) (of_decide_eq_true (by kernel_rfl)) k1 bel lt1) (trodAll_cons_mk (Below.trod laidOut (by kernel_rfl) (of_decide_eq_true (by kernel_rfl)) k2 bel lt2) trodAll_mk0))), rfl, bel.frame _, fun h => by cases h⟩

theorem over : Rows.msgidComparesRow.holds Try.pinned (OpenSpec.ofChange Rows.msgidComparesSpec) :=
  OpenClaim.holds_of_wide 6 Try.f6 rfl rfl rfl rfl rfl rfl rfl ⟨rfl, rfl, rfl, rfl, rfl⟩ rfl rfl rfl rfl rfl (by kernel_rfl) Try.func6 (by kernel_rfl)
    (of_decide_eq_true (by kernel_rfl)) (by unfold Func.isWrapper; first | (rw [if_pos (by decide +kernel)]; kernel_rfl) | (rw [if_neg (by decide +kernel)]; exact ⟨rfl, rfl⟩))
    (fun os started H enc _ => lifted os started H enc)

/-- the statement -/
theorem proved : Rows.MsgidComparesSaid := over
#print axioms proved
end Go.Proofs.Yteahhfmnicfmbaa.compares
