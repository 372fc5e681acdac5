/- History: opening the laws' arguments: entries, operations. -/
import Derived.Test.YtblidphaolgilaaHiW1
import Derived.Test.YtblidphaolgilaaOpenR
namespace Go.Proofs.Ytblidphaolgilaa
set_option maxRecDepth 100000
open Go.RowKit Go.WideShapes

theorem split36 (cs : List Value) : cs = (cs.drop 0).take 32 ++ ((cs.drop 32).take 1 ++ ((cs.drop 33).take 1 ++ ((cs.drop 34).take 1 ++ ((cs.drop 35).take 1 ++ cs.drop 36)))) := by
  have h (n : Nat) : cs.drop n = (cs.drop n).take 1 ++ cs.drop (n + 1) := by
    have h := (List.take_append_drop 1 (cs.drop n)).symm
    rw [List.drop_drop] at h; exact h
  rw [← h 35, ← h 34, ← h 33, ← h 32, List.drop_zero, List.take_append_drop]
theorem i64_of_wf {n : Int} (h : (Lit.int .i64 n).wf = true) : ∃ x : I64, x.1 = n := ⟨⟨n, bounds_i64 h⟩, rfl⟩
theorem ent_of_trod {H : Type} {enc : TypeId × Value → H} {w : World} {base : Nat} {spare : Nat → Bool} {held : Bool} {fuel : Nat} {cs : List Value} {x : DataW H × List MemPlace}
    (h : DataW.trod enc Try.prog w base spare held fuel 24 cs = some x) : ∃ e : Ent, cs = encE e := by
  obtain ⟨xs, n, _, _, hlen, hxl, hel⟩ := DataW.trod_struct Try.underlying24 h
  have hc36 : cs.length = 36 := by rw [hlen]; kernel_rfl
  have c0 : Try.prog.cellsOf 22 = 32 := by kernel_rfl
  have c1 : Try.prog.cellsOf 3 = 1 := by kernel_rfl
  have c2 : Try.prog.cellsOf 4 = 1 := by kernel_rfl
  have hx5 : xs.length = 5 := by rw [hxl]; rfl
  have h0 : DataW.trod enc Try.prog w base spare held n 22 ((cs.drop 0).take (Try.prog.cellsOf 22)) = xs[0]? := hel 0 _ rfl
  rw [c0] at h0
  have h1 : DataW.trod enc Try.prog w base spare held n 3 ((cs.drop 32).take (Try.prog.cellsOf 3)) = xs[1]? := hel 1 _ rfl
  rw [c1] at h1
  have h2 : DataW.trod enc Try.prog w base spare held n 3 ((cs.drop 33).take (Try.prog.cellsOf 3)) = xs[2]? := hel 2 _ rfl
  rw [c1] at h2
  have h3 : DataW.trod enc Try.prog w base spare held n 3 ((cs.drop 34).take (Try.prog.cellsOf 3)) = xs[3]? := hel 3 _ rfl
  rw [c1] at h3
  have h4 : DataW.trod enc Try.prog w base spare held n 4 ((cs.drop 35).take (Try.prog.cellsOf 4)) = xs[4]? := hel 4 _ rfl
  rw [c2] at h4
  rw [List.getElem?_eq_getElem (by omega)] at h0 h1 h2 h3 h4
  obtain ⟨b, hb, e0⟩ := bytes_of_trod Try.underlying22 Try.underlying5 (by kernel_rfl) (by simp; omega) h0
  obtain ⟨n1, e1, _, w1⟩ := DataW.trod_int Try.underlying3 h1
  obtain ⟨n2, e2, _, w2⟩ := DataW.trod_int Try.underlying3 h2
  obtain ⟨n3, e3, _, w3⟩ := DataW.trod_int Try.underlying3 h3
  obtain ⟨b4, e4, _⟩ := DataW.trod_bool Try.underlying4 h4
  refine ⟨⟨⟨b, hb⟩, ⟨n1, bounds_i64 w1⟩, ⟨n2, bounds_i64 w2⟩, ⟨n3, bounds_i64 w3⟩, b4⟩, ?_⟩
  rw [split36 cs, e0, e1, e2, e3, e4, List.drop_of_length_le (by omega)]
  rfl
theorem okWide_struct {P : Program} {w : World} {r : Reach} {base : Nat} {T : TypeId} {fs : Array Field} {v : Value} (ht : P.underlying T = some (.struct fs)) (hv : Value.okWide P w r base T v) : ∃ cs, v = .agg cs ∧ cs.size = P.cellsOf T := by
  obtain ⟨cs, rfl, hsz, _⟩ : ∃ cs, v = .agg cs ∧ cs.size = P.cellsOf T ∧ Row.okWide P w r base T cs := by
    simpa [Value.okWide, ht] using hv
  exact ⟨cs, rfl, hsz⟩
theorem open_ent {H : Type} {enc : TypeId × Value → H} {w : World} {base : Nat} {r : Reach} {spare : Nat → Bool} {held : Bool} {v : Value} {d : DataW H} {p : List MemPlace}
    (hv : Value.okWide Try.prog w r base 24 v) (h : DataW.Trod enc Try.prog w 0 spare held 24 v d p) : ∃ e : Ent, v = encX e := by
  obtain ⟨cs, rfl, hsz⟩ := okWide_struct Try.underlying24 hv
  obtain ⟨fuel, hf⟩ := h
  obtain ⟨e, he⟩ := ent_of_trod hf
  refine ⟨e, ?_⟩
  have he' : cs.toList = encE e := he
  unfold encX
  rw [← he']
/-- an operation -/
structure OpE where
  kind : UInt8
  x : Ent
instance : Inhabited OpE := ⟨⟨0, Ent.zero⟩⟩
def encO (o : OpE) : List Value := .int .u8 o.kind.toNat :: encE o.x
theorem encO_len (o : OpE) : (encO o).length = 37 := by simp [encO, encE_len]
theorem op_of_trod {H : Type} {enc : TypeId × Value → H} {w : World} {base : Nat} {spare : Nat → Bool} {held : Bool} {fuel : Nat} {cs : List Value} {x : DataW H × List MemPlace}
    (h : DataW.trod enc Try.prog w base spare held fuel 44 cs = some x) : ∃ o : OpE, cs = encO o := by
  obtain ⟨xs, n, _, _, hlen, hxl, hel⟩ := DataW.trod_struct Try.underlying44 h
  have hc37 : cs.length = 37 := by rw [hlen]; kernel_rfl
  have c0 : Try.prog.cellsOf 5 = 1 := by kernel_rfl
  have c1 : Try.prog.cellsOf 24 = 36 := by kernel_rfl
  have hx2 : xs.length = 2 := by rw [hxl]; rfl
  have h0 : DataW.trod enc Try.prog w base spare held n 5 ((cs.drop 0).take (Try.prog.cellsOf 5)) = xs[0]? := hel 0 _ rfl
  rw [c0] at h0
  have h1 : DataW.trod enc Try.prog w base spare held n 24 ((cs.drop 1).take (Try.prog.cellsOf 24)) = xs[1]? := hel 1 _ rfl
  rw [c1] at h1
  rw [List.getElem?_eq_getElem (by omega)] at h0 h1
  obtain ⟨n0, e0, _, w0⟩ := DataW.trod_int Try.underlying5 h0
  obtain ⟨e, e1⟩ := ent_of_trod h1
  have hb := bounds_u8 w0
  refine ⟨⟨UInt8.ofNat n0.toNat, e⟩, ?_⟩
  have hs : cs = (cs.drop 0).take 1 ++ (cs.drop 1).take 36 := by
    rw [List.take_of_length_le (l := cs.drop 1) (by simp; omega), List.drop_zero, List.take_append_drop]
  rw [hs, e0, e1]
  unfold encO
  simp
  omega
theorem open_opsE {H : Type} {enc : TypeId × Value → H} {W : World} {base : Nat} {v : Value} {d : DataW H} {p : List MemPlace}
    (hval : Value.okWide Try.prog W .any base 34 v) (h : DataW.Trod enc Try.prog W 0 (fun _ => true) true 34 v d p) : ∃ l, RowsArg encO 37 v l W :=
  open_rows encO_len (by decide) Try.underlying34 (by kernel_rfl) (fun _ _ _ h => op_of_trod h) hval h
end Go.Proofs.Ytblidphaolgilaa
