/- For every identity, after one byte of its message identifier was changed, Parse returns another identity or the offset of this byte. No condition. -/
import Derived.Test.YteahhfmnicfmbaaRows
import Derived.Test.YteahhfmnicfmbaaKnown
import Derived.Test.YteahhfmnicfmbaaOpenId
import Derived.Test.YteahhfmnicfmbaaParses
import Derived.WalkKit
import Derived.WalkSpells
import Derived.WalkLawsBesides
import Derived.ProofKit
import Derived.OpenShut
import Derived.ShutString
import Derived.ChangeOld
import Derived.Below
import Derived.Lib.Hide
import Derived.Outline
import Derived.Lib.ConvBytes
import Derived.Laws.IdiomStrings
namespace Go.Proofs.Yteahhfmnicfmbaa.spoilt
open Go.ChangeShapes Go.WideShapes Go.ChangeAt Go.RowKit
open Go.ChangeMaps (open_string shut_string)

theorem byt_set (l : List UInt8) (k i : Nat) (c : UInt8) : byt (l.set k c) i = if k = i ∧ i < l.length then c.toNat else byt l i := by
  rw [byt_get, byt_get, List.getElem?_set]
  by_cases h : k = i
  · subst h
    by_cases h2 : k < l.length
    · simp [h2]
    · simp [h2]
  · simp [h]
theorem spoilt_plain (b : List UInt8) (hb : b.length = 32) (k : Nat) (hk : k < 71) (c : UInt8) (hc : byt (printL b) k ≠ c.toNat) :
    (parseE ((printL b).set k c) = (zeroL, k, 6)) ∨ ((parseE ((printL b).set k c)).2.2 = 0 ∧ (parseE ((printL b).set k c)).1.length = 32 ∧ (parseE ((printL b).set k c)).1 ≠ b ∧ 1 ≤ k ∧ k ≤ 64) := by
  have hl := printL_length b hb
  have hl' : ((printL b).set k c).length = 71 := by simp [hl]
  have hother : ∀ j, j ≠ k → badAt ((printL b).set k c) j = false := fun j hj => by
    have e : byt ((printL b).set k c) j = byt (printL b) j := by rw [byt_set, if_neg (by omega)]
    have := print_good b hb j
    unfold badAt at this ⊢
    rw [e]; exact this
  cases hbad : badAt ((printL b).set k c) k
  · right
    have hn : NoneBelow (badAt ((printL b).set k c)) 71 := fun j _ => by
      by_cases e : j = k
      · rw [e]; exact hbad
      · exact hother j e
    have hE : parseE ((printL b).set k c) = (parseId ((printL b).set k c), 0, 0) := by
      rw [parseE, hl', show min 71 71 = 71 from rfl, fst1_none hn]; rfl
    rw [hE]
    have hk64 : 1 ≤ k ∧ k < 65 := by
      by_cases h : 1 ≤ k ∧ k < 65
      · exact h
      · rw [badAt, if_neg h, byt_set, if_pos ⟨rfl, by omega⟩] at hbad
        have h1 : c.toNat = byt formL k := by simpa using hbad
        rw [h1, formL, ← print_edge b zeroL hb rfl k h] at hc
        exact absurd rfl hc
    refine ⟨rfl, parseId_length _, fun h => ?_, hk64.1, by omega⟩
    have h2 := parses.print_parse _ hl' hn
    rw [show parseId ((printL b).set k c) = b from h] at h2
    have h3 : byt ((printL b).set k c) k = byt (printL b) k := by rw [← h2]
    rw [byt_set, if_pos ⟨rfl, by omega⟩] at h3
    exact hc h3.symm
  · left
    rw [parseE, hl', show min 71 71 = 71 from rfl, fst1_some (by omega) (fun j hj => hother j (by omega)) hbad]

set_option maxHeartbeats 1600000 in
theorem spoilt_walk (b : List UInt8) (hb : b.length = 32) (wh : Int) (hw : (Lit.int .u8 wh).wf = true) (by_ : Int) (hy : (Lit.int .u8 by_).wf = true) (w : World) :
    Calls Try.prog 5 #[idv b, .int .u8 wh, .int .u8 by_] w fun e w' => e = .returned (.bool true) ∧ Below w.heap.size w w' := by
  have bw := bounds_u8 hw
  have bb := bounds_u8 hy
  obtain ⟨wn, rfl⟩ := Int.eq_ofNat_of_zero_le bw.1
  obtain ⟨yn, rfl⟩ := Int.eq_ofNat_of_zero_le bb.1
  have HB := Lib.hid hb
  have HI := Lib.hid (idInfoL b hb)
  clear hb hw hy
  go_enter Try.func5, Try.ntmps5
  go_wp2_with fail
  have b0 : Below w.heap.size w (w.alloc (.cells (Lib.byteCells b).toArray 23)) := (Below.refl _ w).alloc (Nat.le_refl _) _
  have H0 : Hid ((w.alloc (.cells (Lib.byteCells b).toArray 23)).heap[w.heap.size]? = some (.cells (Lib.byteCells b).toArray 23 (0, 0))) := Lib.hid (heap_alloc_new w _)
  refine (known_any _).mono ?_
  rintro e w1 ⟨rfl, b1⟩
  have H1 := Lib.hid (heap_below b1 (by simp) H0.out)
  have c1 := b0.trans (b1.mono b0.size)
  clear H0 b0 b1
  go_wp2_with (refine wpList_load_abs (by rfl) 23 (.tmp 3) (by rfl) w.heap.size (by rfl) _ _ _ _ H1.out Try.underlying23 rfl HI.out ?_)
  refine (refprint_any b HB.out _).mono ?_
  rintro e w2 ⟨rfl, b2⟩
  have H2 := Lib.hid (heap_below b2 (Array.getElem?_eq_some_iff.1 H1.out).1 H1.out)
  have c2 := c1.trans (b2.mono c1.size)
  clear H1 c1 b2
  have hconv := Lib.run_convert_string_bytes (P := Try.prog) w2 9 35 5 ⟨(printL b).toArray⟩ Try.underlying9 Try.underlying35 Try.underlying5
  have hSs : (⟨(printL b).toArray⟩ : ByteArray).size = 71 := by rw [ByteArray.size]; simp [printL_length b HB.out]
  rw [hSs] at hconv
  obtain ⟨k, hkn⟩ : ∃ k : Nat, k = wn % 71 := ⟨_, rfl⟩
  have hk : (wn : Int) % 71 = (k : Int) := by omega
  have hk71 : k < 71 := by omega
  have hk71i : (k : Int) < 71 := by omega
  have hk0 : (0 : Int) ≤ (k : Int) := by omega
  have hcells : ∀ j, j < 71 → (Lib.bytesWorld w2 5 ⟨(printL b).toArray⟩).cell? ⟨w2.heap.size, j, none⟩ = some (.int .u8 (byt (printL b) j)) := fun j hj => by
    rw [Lib.bytesWorld_cell w2 _ _ j (by rw [hSs]; exact hj)]; rfl
  have hnew := Lib.bytesWorld_at_new w2 5 ⟨(printL b).toArray⟩
  have hcsz : 71 ≤ (Lib.bytesCells w2 5 ⟨(printL b).toArray⟩).size := by
    simp [Lib.bytesCells, printL_length b HB.out]
  have hfz : ∀ j, j < 71 → (Lib.bytesWorld w2 5 ⟨(printL b).toArray⟩).frozen? ⟨w2.heap.size, j, none⟩ = false := fun j hj => by
    simp only [World.frozen?, hnew]
    simp; omega
  have hbel : Below w2.heap.size w2 (Lib.bytesWorld w2 5 ⟨(printL b).toArray⟩) := ⟨rfl, rfl, rfl, by rw [Lib.bytesWorld_size]; omega, fun j hj => Lib.bytesWorld_at_old w2 _ _ j hj⟩
  have hgs := Lib.bytesWorld_size w2 5 ⟨(printL b).toArray⟩
  generalize Lib.bytesWorld w2 5 ⟨(printL b).toArray⟩ = w3 at *
  generalize grownCap w2 71 0 5 = cap at *
  have H3 := Lib.hid (heap_below hbel (Array.getElem?_eq_some_iff.1 H2.out).1 H2.out)
  have c3 := c2.trans (hbel.mono c2.size)
  have hck := hcells k hk71
  have hfk := hfz k hk71
  have HC := Lib.hid hcells
  have HG := Lib.hid hgs
  clear hSs hkn hcells hnew hcsz hfz hbel hgs
  by_cases heq : byt (printL b) k = yn
  · have heqb : ((byt (printL b) k : Int) == (yn : Int)) = true := by simp [heq]
    clear heq
    go_wp2
    go_ret
    exact ⟨rfl, c3⟩
  · have heqb : ((byt (printL b) k : Int) == (yn : Int)) = false := by simp; omega
    have hplain := spoilt_plain b HB.out k hk71 yn.toUInt8 (by simp; omega)
    have hl' : ((printL b).set k yn.toUInt8).length = 71 := by simp [printL_length b HB.out]
    have hback := run_convert_bytes_back (P := Try.prog) (w3.setCell ⟨w2.heap.size, k, none⟩ (.int .u8 (yn : Int))) 35 9 5 ⟨w2.heap.size, 0, none⟩ cap ((printL b).set k yn.toUInt8) Try.underlying35 Try.underlying5 Try.underlying9 (fun j hj => by
      rw [hl'] at hj
      rw [Addr.add_mid, Nat.zero_add]
      have e2 : ((((printL b).set k yn.toUInt8)[j]'(by rw [hl']; exact hj)).toNat) = byt ((printL b).set k yn.toUInt8) j := by
        rw [byt_get, List.getElem?_eq_getElem (by rw [hl']; exact hj)]; rfl
      rw [e2, byt_set]
      by_cases h : k = j
      · subst h
        rw [if_pos ⟨rfl, by rw [printL_length b HB.out]; exact hj⟩, World.cell?_setCell_same _ _ _ hck]
        have : yn.toUInt8.toNat = yn := by simp; omega
        rw [this]
      · rw [if_neg (fun q => h q.1), World.cell?_setCell_other _ _ _ _ (fun q => h (by injection q)), HC.out j hj])
    rw [hl'] at hback
    have c4 : Below w.heap.size w (w3.setCell ⟨w2.heap.size, k, none⟩ (.int .u8 (yn : Int))) := c3.setCell (by exact c2.size) _
    have H4 : Hid ((w3.setCell ⟨w2.heap.size, k, none⟩ (.int .u8 (yn : Int))).heap[w.heap.size]? = some (.cells (Lib.byteCells b).toArray 23 (0, 0))) := by
      apply Lib.hid
      rw [heap_setCell_other _ _ _ _ (by have := (Array.getElem?_eq_some_iff.1 H2.out).1; show w.heap.size ≠ w2.heap.size; omega)]
      exact H3.out
    have hsz4 : (⟨((printL b).set k yn.toUInt8).toArray⟩ : ByteArray).size ≤ maxLen := by rw [ByteArray.size]; simp [printL_length b HB.out]; unfold maxLen; omega
    go_wp2_with fail
    refine (parse_any _ hsz4 _).mono ?_
    rintro e w5 ⟨rfl, b5⟩
    have H5 := Lib.hid (heap_below b5 (Array.getElem?_eq_some_iff.1 H4.out).1 H4.out)
    have c5 := c4.trans (b5.mono c4.size)
    have hlt5 := (Array.getElem?_eq_some_iff.1 H5.out).1
    unfold parseV
    have hlist : (⟨((printL b).set k yn.toUInt8).toArray⟩ : ByteArray).data.toList = (printL b).set k yn.toUInt8 := by simp
    rw [hlist]
    generalize parseE ((printL b).set k yn.toUInt8) = p at *
    clear hback hl' hck hfk hconv H4 c4 b5 c3 H3 HC HG heq heqb hlist hsz4
    have HQ : Hid ((w5.alloc (.cells (Lib.byteCells zeroL).toArray 23)).heap[w5.heap.size]? = some (.cells (Lib.byteCells zeroL).toArray 23 (0, 0))) := Lib.hid (heap_alloc_new w5 _)
    rcases hplain with rfl | ⟨he, hlen, hne, hk1, hk2⟩
    · dsimp only
      have hz := fun w => id_eql zeroL b rfl HB.out w
      go_wp2_with (refine wpList_store_abs (by rfl) 23 (.tmp 9) (.tmp 36) (by rfl) w5.heap.size (Lib.byteCells zeroL).toArray (by rfl) (by rfl) _ (Lib.byteCells zeroL).toArray HQ.out (idInfoL zeroL rfl) rfl (bytes_one _) w.heap.size w (c5.alloc c5.size _) c5.size ?_)
      intro w6 h6 b6 o6
      clear HQ
      go_wp2_with (first | (refine wpList_load_abs (by rfl) 23 (.tmp 9) (by rfl) w5.heap.size (by rfl) _ _ _ _ h6.out Try.underlying23 rfl (idInfoL zeroL rfl) ?_))
      refine (isZero_any zeroL rfl _).mono ?_
      rintro e w7 ⟨rfl, b7⟩
      go_wp2
      go_ret
      exact ⟨by simp, b6.trans (b7.mono b6.size)⟩
    · obtain ⟨o, at0, e0⟩ := p
      dsimp only at *
      subst he
      have HI2 := Lib.hid (idInfoL o hlen)
      have HZ : Hid ((Lib.byteCells zeroL).toArray.size = (Lib.byteCells o).toArray.size) := Lib.hid (by simp [Lib.byteCells_length, zeroL, hlen])
      have hq2 : (o == b) = false := by simpa using hne
      have hq := fun w => (id_eql o b hlen HB.out w).trans (by rw [hq2])
      have hk1i : (1 : Int) ≤ (k : Int) := by omega
      have hk2i : (k : Int) ≤ 64 := by omega
      clear hlen hne hq2
      go_wp2_with (refine wpList_store_abs (by rfl) 23 (.tmp 9) (.tmp 36) (by rfl) w5.heap.size (Lib.byteCells o).toArray (by rfl) (by rfl) _ (Lib.byteCells zeroL).toArray HQ.out HI2.out HZ.out (bytes_one _) w.heap.size w (c5.alloc c5.size _) c5.size ?_)
      intro w6 h6 b6 o6
      have H6 : Hid (w6.heap[w.heap.size]? = some (.cells (Lib.byteCells b).toArray 23 (0, 0))) := Lib.hid ((o6.out _ (by omega)).trans (heap_alloc_old' H5.out))
      clear HQ o6 H5
      go_wp2_with (first | (refine wpList_load_abs (by rfl) 23 (.tmp 9) (by rfl) w5.heap.size (by rfl) _ _ _ _ h6.out Try.underlying23 rfl HI2.out ?_) | (refine wpList_load_abs (by rfl) 23 (.tmp 3) (by rfl) w.heap.size (by rfl) _ _ _ _ H6.out Try.underlying23 rfl HI.out ?_))
      go_ret
      exact ⟨by simp, b6⟩

theorem own : ownKnob Try.prog.godebug = none := by kernel_rfl
theorem laidOut : laidOutB Try.prog = true := by kernel_rfl

set_option maxRecDepth 100000 in
theorem lifted (os : Os) (started : os.Started) (H : Type) (enc : TypeId × Value → H) :
    ReturnsInHanded {} Try.checked os 5 .any (Rows.msgidSpoiltSpec.pre6 enc Try.prog Try.f5 Rows.msgidSpoiltRow.domain false) (Rows.msgidSpoiltSpec.post enc Try.prog Try.f5 false true false false) := by
  refine returnsInHanded_of_change (C := Try.checked) own started (by kernel_rfl) Try.func5
    (ChangeSpec.witness6 (enc := enc) (C := Try.checked) false ⟨#[], #[.agg #[.int .u8 0, .int .u8 0, .int .u8 0, .int .u8 0, .int .u8 0, .int .u8 0, .int .u8 0, .int .u8 0, .int .u8 0, .int .u8 0, .int .u8 0, .int .u8 0, .int .u8 0, .int .u8 0, .int .u8 0, .int .u8 0, .int .u8 0, .int .u8 0, .int .u8 0, .int .u8 0, .int .u8 0, .int .u8 0, .int .u8 0, .int .u8 0, .int .u8 0, .int .u8 0, .int .u8 0, .int .u8 0, .int .u8 0, .int .u8 0, .int .u8 0, .int .u8 0], .int .u8 0, .int .u8 0], []⟩ 8 (by kernel_rfl) (by kernel_rfl) (by kernel_rfl) (by kernel_rfl)) ?_
  intro W base args ds gs before hval0 hW hcnd _
  have hval : ∀ (j : Nat) t v, Try.f5.params[j]? = some t → args[j]? = some v → Value.okWide Try.prog W .any base t v := hval0
  have hW' := hW
  obtain ⟨p, q, hA0, hV, rfl, hfz, hnd⟩ := hW
  have hA : DataW.TrodAll enc Try.prog W 0 (fun _ => true) true Try.f5.params.toList args.toList ds p := hA0
  rw [Try.params5] at hA hval
  obtain ⟨v0, vs0, d0, ds0, p0, q0, hargs, rfl, rfl, h0, r0⟩ := trodAll_cons hA
  obtain ⟨v1, vs1, d1, ds1, p1, q1, rfl, rfl, rfl, h1, r1⟩ := trodAll_cons r0
  obtain ⟨v2, vs2, d2, ds2, p2, q2, rfl, rfl, rfl, h2, r2⟩ := trodAll_cons r1
  obtain ⟨rfl, rfl, rfl⟩ := trodAll_nil r2
  obtain rfl : args = #[v0, v1, v2] := by cases args; simp_all
  obtain ⟨rfl, rfl⟩ := trodVars_none hV
  have k0 := h0
  have lt0 : ∀ x ∈ p0, x.block < W.heap.size := by obtain ⟨m, hm⟩ := k0; exact DataW.trod_lt m _ _ _ hm
  have k1 := h1
  have lt1 : ∀ x ∈ p1, x.block < W.heap.size := by obtain ⟨m, hm⟩ := k1; exact DataW.trod_lt m _ _ _ hm
  have k2 := h2
  have lt2 : ∀ x ∈ p2, x.block < W.heap.size := by obtain ⟨m, hm⟩ := k2; exact DataW.trod_lt m _ _ _ hm
  obtain ⟨a0, w0, rfl⟩ := open_bytes Try.underlying23 Try.underlying5 (by kernel_rfl) (by kernel_rfl) (hval 0 23 v0 rfl rfl) h0
  obtain ⟨a1, rfl, rfl, rfl, w1⟩ := open_int Try.underlying5 (hval 1 5 v1 rfl rfl) h1
  obtain ⟨a2, rfl, rfl, rfl, w2⟩ := open_int Try.underlying5 (hval 2 5 v2 rfl rfl) h2
  clear hA0 hval0
  refine (spoilt_walk a0 w0 a1 w1 a2 w2 W).mono fun e W' ⟨he, bel⟩ => ?_
  subst he
  exact ⟨_, rfl, _, _, _, [], _, [], hW', trodAll_mk1 (shut_bool Try.underlying4 _), (trodAll_cons_mk (Below.trod laidOut (by kernel_rfl) (of_decide_eq_true (by kernel_rfl)) k0 bel lt0) (trodAll_cons_mk (Below.trod laidOut (by kernel_rfl) (of_decide_eq_true (by kernel_rfl)) k1 bel lt1) (trodAll_cons_mk (Below.trod laidOut (by kernel_rfl) (of_decide_eq_true (by kernel_rfl)) k2 bel lt2) trodAll_mk0))), rfl, bel.frame _, fun h => by cases h⟩

theorem over : Rows.msgidSpoiltRow.holds Try.pinned (OpenSpec.ofChange Rows.msgidSpoiltSpec) :=
  OpenClaim.holds_of_wide 5 Try.f5 rfl rfl rfl rfl rfl rfl rfl ⟨rfl, rfl, rfl, rfl, rfl⟩ rfl rfl rfl rfl rfl (by kernel_rfl) Try.func5 (by kernel_rfl)
    (of_decide_eq_true (by kernel_rfl)) (by unfold Func.isWrapper; first | (rw [if_pos (by decide +kernel)]; kernel_rfl) | (rw [if_neg (by decide +kernel)]; exact ⟨rfl, rfl⟩))
    (fun os started H enc _ => lifted os started H enc)

/-- the statement -/
theorem proved : Rows.MsgidSpoiltSaid := over
#print axioms proved
end Go.Proofs.Yteahhfmnicfmbaa.spoilt
