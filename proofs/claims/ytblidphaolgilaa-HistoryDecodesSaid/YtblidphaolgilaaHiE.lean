/- Equality of entries: the reference's and the program's. -/
import Derived.Test.YtblidphaolgilaaHiPl
import Derived.Laws.StructEq
namespace Go.Proofs.Ytblidphaolgilaa
open Go.RowKit
set_option linter.unusedSimpArgs false
set_option maxRecDepth 100000
theorem eqFields_step {P : Program} (w : World) (d : Nat) (xs ys : Array Value) (f : Field) (fs : List Field) (hn : f.name ≠ "_") (a b : Value) (r : Bool) (ha : (part f.type xs f.offset).run P w = .ok a w) (hb : (part f.type ys f.offset).run P w = .ok b w)
    (hr : (Op.equalIn d f.type a b).run P w = .ok r w) : (Op.eqFields d xs ys (f :: fs)).run P w = if r then (Op.eqFields d xs ys fs).run P w else .ok false w := by
  rw [Op.eqFields, if_pos hn]
  simp only [Sem.run_bind, ha, hb, hr, Result.andThen_ok]
  cases r <;> simp
deriving instance DecidableEq for Ent
theorem exec_neq {P : Program} {w : World} {o : Oper} {ev : Operand → Value} (T T2 : TypeId) (p q : Operand) (ho : o.op = .binOp .neq T p q T2) (xs ys : Array Value) (hp : ev p = .agg xs) (hq : ev q = .agg ys) (hm : P.eqGuardType P.depth T = false) (r : Bool)
    (he : (Op.equalIn 10000 T (.agg xs) (.agg ys)).run P w = .ok r w) : (execOp ev o).run P w = .ok (.value (.bool (!r))) w := by
  unfold execOp
  simp only [ho, hp, hq]
  simp [run_eqGuard_agg w _ T _ _ _ _ hm, run_neq_struct, he]
theorem entEq (x y : Ent) : decide (x = y) = ((x.id.1 == y.id.1) && ((x.arr.1 == y.arr.1) && ((x.dat.1 == y.dat.1) && ((x.st.1 == y.st.1) && (x.perm == y.perm))))) := by
  rw [Bool.eq_iff_iff]
  obtain ⟨i, a, d, s, p⟩ := x
  obtain ⟨i', a', d', s', p'⟩ := y
  simp [Subtype.ext_iff]
theorem enc36 (x : Ent) : ∃ L, encI x.id = L ∧ (encE x).toArray = (L ++ ([.int .i64 x.arr.1, .int .i64 x.dat.1, .int .i64 x.st.1, .bool x.perm] : List Value)).toArray := ⟨_, rfl, by unfold encE; rfl⟩

theorem eqX_part0 (L : List Value) (h : L.length = 32) (k1 k2 k3 : Int) (k4 : Bool) (w : World) : (part 22 (L ++ ([.int .i64 k1, .int .i64 k2, .int .i64 k3, .bool k4] : List Value)).toArray 0).run Try.prog w = .ok (.agg L.toArray) w := by
  obtain ⟨a0, a1, a2, a3, a4, a5, a6, a7, a8, a9, a10, a11, a12, a13, a14, a15, a16, a17, a18, a19, a20, a21, a22, a23, a24, a25, a26, a27, a28, a29, a30, a31, rfl⟩ := list32 L h
  show (part 22 #[a0, a1, a2, a3, a4, a5, a6, a7, a8, a9, a10, a11, a12, a13, a14, a15, a16, a17, a18, a19, a20, a21, a22, a23, a24, a25, a26, a27, a28, a29, a30, a31, .int .i64 k1, .int .i64 k2, .int .i64 k3, .bool k4] 0).run Try.prog w = .ok (.agg #[a0, a1, a2, a3, a4, a5, a6, a7, a8, a9, a10, a11, a12, a13, a14, a15, a16, a17, a18, a19, a20, a21, a22, a23, a24, a25, a26, a27, a28, a29, a30, a31]) w
  kernel_rfl
theorem eqX_part1 (L : List Value) (h : L.length = 32) (k1 k2 k3 : Int) (k4 : Bool) (w : World) : (part 3 (L ++ ([.int .i64 k1, .int .i64 k2, .int .i64 k3, .bool k4] : List Value)).toArray 32).run Try.prog w = .ok (.int .i64 k1) w := by
  obtain ⟨a0, a1, a2, a3, a4, a5, a6, a7, a8, a9, a10, a11, a12, a13, a14, a15, a16, a17, a18, a19, a20, a21, a22, a23, a24, a25, a26, a27, a28, a29, a30, a31, rfl⟩ := list32 L h
  show (part 3 #[a0, a1, a2, a3, a4, a5, a6, a7, a8, a9, a10, a11, a12, a13, a14, a15, a16, a17, a18, a19, a20, a21, a22, a23, a24, a25, a26, a27, a28, a29, a30, a31, .int .i64 k1, .int .i64 k2, .int .i64 k3, .bool k4] 32).run Try.prog w = .ok (.int .i64 k1) w
  kernel_rfl
theorem eqX_part2 (L : List Value) (h : L.length = 32) (k1 k2 k3 : Int) (k4 : Bool) (w : World) : (part 3 (L ++ ([.int .i64 k1, .int .i64 k2, .int .i64 k3, .bool k4] : List Value)).toArray 33).run Try.prog w = .ok (.int .i64 k2) w := by
  obtain ⟨a0, a1, a2, a3, a4, a5, a6, a7, a8, a9, a10, a11, a12, a13, a14, a15, a16, a17, a18, a19, a20, a21, a22, a23, a24, a25, a26, a27, a28, a29, a30, a31, rfl⟩ := list32 L h
  show (part 3 #[a0, a1, a2, a3, a4, a5, a6, a7, a8, a9, a10, a11, a12, a13, a14, a15, a16, a17, a18, a19, a20, a21, a22, a23, a24, a25, a26, a27, a28, a29, a30, a31, .int .i64 k1, .int .i64 k2, .int .i64 k3, .bool k4] 33).run Try.prog w = .ok (.int .i64 k2) w
  kernel_rfl
theorem eqX_part3 (L : List Value) (h : L.length = 32) (k1 k2 k3 : Int) (k4 : Bool) (w : World) : (part 3 (L ++ ([.int .i64 k1, .int .i64 k2, .int .i64 k3, .bool k4] : List Value)).toArray 34).run Try.prog w = .ok (.int .i64 k3) w := by
  obtain ⟨a0, a1, a2, a3, a4, a5, a6, a7, a8, a9, a10, a11, a12, a13, a14, a15, a16, a17, a18, a19, a20, a21, a22, a23, a24, a25, a26, a27, a28, a29, a30, a31, rfl⟩ := list32 L h
  show (part 3 #[a0, a1, a2, a3, a4, a5, a6, a7, a8, a9, a10, a11, a12, a13, a14, a15, a16, a17, a18, a19, a20, a21, a22, a23, a24, a25, a26, a27, a28, a29, a30, a31, .int .i64 k1, .int .i64 k2, .int .i64 k3, .bool k4] 34).run Try.prog w = .ok (.int .i64 k3) w
  kernel_rfl
theorem eqX_part4 (L : List Value) (h : L.length = 32) (k1 k2 k3 : Int) (k4 : Bool) (w : World) : (part 4 (L ++ ([.int .i64 k1, .int .i64 k2, .int .i64 k3, .bool k4] : List Value)).toArray 35).run Try.prog w = .ok (.bool k4) w := by
  obtain ⟨a0, a1, a2, a3, a4, a5, a6, a7, a8, a9, a10, a11, a12, a13, a14, a15, a16, a17, a18, a19, a20, a21, a22, a23, a24, a25, a26, a27, a28, a29, a30, a31, rfl⟩ := list32 L h
  show (part 4 #[a0, a1, a2, a3, a4, a5, a6, a7, a8, a9, a10, a11, a12, a13, a14, a15, a16, a17, a18, a19, a20, a21, a22, a23, a24, a25, a26, a27, a28, a29, a30, a31, .int .i64 k1, .int .i64 k2, .int .i64 k3, .bool k4] 35).run Try.prog w = .ok (.bool k4) w
  kernel_rfl
theorem eqX (x y : Ent) (w : World) : (Op.equalIn 10000 24 (.agg (encE x).toArray) (.agg (encE y).toArray)).run Try.prog w = .ok (decide (x = y)) w := by
  rw [run_equalIn_struct w 9999 24 _ _ (by kernel_rfl) (by kernel_rfl)]
  obtain ⟨f0, f1, f2, f3, f4, hf, t0, t1, t2, t3, t4, o0, o1, o2, o3, o4, n0, n1, n2, n3, n4⟩ : ∃ f0 f1 f2 f3 f4, (Try.prog.fieldsOf 24).toList = [f0, f1, f2, f3, f4] ∧ f0.type = 22 ∧ f1.type = 3 ∧ f2.type = 3 ∧ f3.type = 3 ∧ f4.type = 4 ∧
      f0.offset = 0 ∧ f1.offset = 32 ∧ f2.offset = 33 ∧ f3.offset = 34 ∧ f4.offset = 35 ∧ f0.name ≠ "_" ∧ f1.name ≠ "_" ∧ f2.name ≠ "_" ∧ f3.name ≠ "_" ∧ f4.name ≠ "_" := by
    refine ⟨_, _, _, _, _, by unfold Program.fieldsOf; rw [Try.underlying24], rfl, rfl, rfl, rfl, rfl, rfl, rfl, rfl, rfl, rfl, by decide, by decide, by decide, by decide, by decide⟩
  rw [hf]
  obtain ⟨L, hL, eL⟩ := enc36 x
  obtain ⟨M, hM, eM⟩ := enc36 y
  have lL : L.length = 32 := by rw [← hL]; exact encI_len _
  have lM : M.length = 32 := by rw [← hM]; exact encI_len _
  have h0 : (Op.equalIn 9999 22 (.agg L.toArray) (.agg M.toArray)).run Try.prog w = .ok (x.id.1 == y.id.1) w := by
    rw [← hL, ← hM]
    exact run_equalIn_bytes w 9997 22 5 32 Try.underlying22 Try.underlying5 Try.sizeOf5 x.id.1 y.id.1 x.id.2 y.id.2
  rw [eL, eM, entEq]
  rw [eqFields_step w 9999 _ _ f0 _ n0 (.agg L.toArray) (.agg M.toArray) _ (by rw [t0, o0]; exact eqX_part0 L lL _ _ _ _ w) (by rw [t0, o0]; exact eqX_part0 M lM _ _ _ _ w) (by rw [t0]; exact h0)]
  cases x.id.1 == y.id.1
  · rfl
  rw [if_pos rfl, eqFields_step w 9999 _ _ f1 _ n1 (.int .i64 x.arr.1) (.int .i64 y.arr.1) _ (by rw [t1, o1]; exact eqX_part1 L lL _ _ _ _ w) (by rw [t1, o1]; exact eqX_part1 M lM _ _ _ _ w) (by rw [t1]; exact run_equalIn_int w 9998 _ _ _ _ _ Try.underlying3)]
  cases x.arr.1 == y.arr.1
  · rfl
  rw [if_pos rfl, eqFields_step w 9999 _ _ f2 _ n2 (.int .i64 x.dat.1) (.int .i64 y.dat.1) _ (by rw [t2, o2]; exact eqX_part2 L lL _ _ _ _ w) (by rw [t2, o2]; exact eqX_part2 M lM _ _ _ _ w) (by rw [t2]; exact run_equalIn_int w 9998 _ _ _ _ _ Try.underlying3)]
  cases x.dat.1 == y.dat.1
  · rfl
  rw [if_pos rfl, eqFields_step w 9999 _ _ f3 _ n3 (.int .i64 x.st.1) (.int .i64 y.st.1) _ (by rw [t3, o3]; exact eqX_part3 L lL _ _ _ _ w) (by rw [t3, o3]; exact eqX_part3 M lM _ _ _ _ w) (by rw [t3]; exact run_equalIn_int w 9998 _ _ _ _ _ Try.underlying3)]
  cases x.st.1 == y.st.1
  · rfl
  rw [if_pos rfl, eqFields_step w 9999 _ _ f4 _ n4 (.bool x.perm) (.bool y.perm) _ (by rw [t4, o4]; exact eqX_part4 L lL _ _ _ _ w) (by rw [t4, o4]; exact eqX_part4 M lM _ _ _ _ w) (by rw [t4]; exact run_equalIn_bool' w 9998 _ _ _ Try.underlying4)]
  cases x.perm == y.perm <;> rfl

theorem eqE_part0 (L : List Value) (h : L.length = 32) (k1 k2 k3 : Int) (k4 : Bool) (w : World) : (part 27 (L ++ ([.int .i64 k1, .int .i64 k2, .int .i64 k3, .bool k4] : List Value)).toArray 0).run Try.prog w = .ok (.agg L.toArray) w := by
  obtain ⟨a0, a1, a2, a3, a4, a5, a6, a7, a8, a9, a10, a11, a12, a13, a14, a15, a16, a17, a18, a19, a20, a21, a22, a23, a24, a25, a26, a27, a28, a29, a30, a31, rfl⟩ := list32 L h
  show (part 27 #[a0, a1, a2, a3, a4, a5, a6, a7, a8, a9, a10, a11, a12, a13, a14, a15, a16, a17, a18, a19, a20, a21, a22, a23, a24, a25, a26, a27, a28, a29, a30, a31, .int .i64 k1, .int .i64 k2, .int .i64 k3, .bool k4] 0).run Try.prog w = .ok (.agg #[a0, a1, a2, a3, a4, a5, a6, a7, a8, a9, a10, a11, a12, a13, a14, a15, a16, a17, a18, a19, a20, a21, a22, a23, a24, a25, a26, a27, a28, a29, a30, a31]) w
  kernel_rfl
theorem eqE (x y : Ent) (w : World) : (Op.equalIn 10000 29 (.agg (encE x).toArray) (.agg (encE y).toArray)).run Try.prog w = .ok (decide (x = y)) w := by
  rw [run_equalIn_struct w 9999 29 _ _ (by kernel_rfl) (by kernel_rfl)]
  obtain ⟨f0, f1, f2, f3, f4, hf, t0, t1, t2, t3, t4, o0, o1, o2, o3, o4, n0, n1, n2, n3, n4⟩ : ∃ f0 f1 f2 f3 f4, (Try.prog.fieldsOf 29).toList = [f0, f1, f2, f3, f4] ∧ f0.type = 27 ∧ f1.type = 3 ∧ f2.type = 3 ∧ f3.type = 3 ∧ f4.type = 4 ∧
      f0.offset = 0 ∧ f1.offset = 32 ∧ f2.offset = 33 ∧ f3.offset = 34 ∧ f4.offset = 35 ∧ f0.name ≠ "_" ∧ f1.name ≠ "_" ∧ f2.name ≠ "_" ∧ f3.name ≠ "_" ∧ f4.name ≠ "_" := by
    refine ⟨_, _, _, _, _, by unfold Program.fieldsOf; rw [Try.underlying29], rfl, rfl, rfl, rfl, rfl, rfl, rfl, rfl, rfl, rfl, by decide, by decide, by decide, by decide, by decide⟩
  rw [hf]
  obtain ⟨L, hL, eL⟩ := enc36 x
  obtain ⟨M, hM, eM⟩ := enc36 y
  have lL : L.length = 32 := by rw [← hL]; exact encI_len _
  have lM : M.length = 32 := by rw [← hM]; exact encI_len _
  have h0 : (Op.equalIn 9999 27 (.agg L.toArray) (.agg M.toArray)).run Try.prog w = .ok (x.id.1 == y.id.1) w := by
    rw [← hL, ← hM]
    exact run_equalIn_bytes w 9997 27 5 32 Try.underlying27 Try.underlying5 Try.sizeOf5 x.id.1 y.id.1 x.id.2 y.id.2
  rw [eL, eM, entEq]
  rw [eqFields_step w 9999 _ _ f0 _ n0 (.agg L.toArray) (.agg M.toArray) _ (by rw [t0, o0]; exact eqE_part0 L lL _ _ _ _ w) (by rw [t0, o0]; exact eqE_part0 M lM _ _ _ _ w) (by rw [t0]; exact h0)]
  cases x.id.1 == y.id.1
  · rfl
  rw [if_pos rfl, eqFields_step w 9999 _ _ f1 _ n1 (.int .i64 x.arr.1) (.int .i64 y.arr.1) _ (by rw [t1, o1]; exact eqX_part1 L lL _ _ _ _ w) (by rw [t1, o1]; exact eqX_part1 M lM _ _ _ _ w) (by rw [t1]; exact run_equalIn_int w 9998 _ _ _ _ _ Try.underlying3)]
  cases x.arr.1 == y.arr.1
  · rfl
  rw [if_pos rfl, eqFields_step w 9999 _ _ f2 _ n2 (.int .i64 x.dat.1) (.int .i64 y.dat.1) _ (by rw [t2, o2]; exact eqX_part2 L lL _ _ _ _ w) (by rw [t2, o2]; exact eqX_part2 M lM _ _ _ _ w) (by rw [t2]; exact run_equalIn_int w 9998 _ _ _ _ _ Try.underlying3)]
  cases x.dat.1 == y.dat.1
  · rfl
  rw [if_pos rfl, eqFields_step w 9999 _ _ f3 _ n3 (.int .i64 x.st.1) (.int .i64 y.st.1) _ (by rw [t3, o3]; exact eqX_part3 L lL _ _ _ _ w) (by rw [t3, o3]; exact eqX_part3 M lM _ _ _ _ w) (by rw [t3]; exact run_equalIn_int w 9998 _ _ _ _ _ Try.underlying3)]
  cases x.st.1 == y.st.1
  · rfl
  rw [if_pos rfl, eqFields_step w 9999 _ _ f4 _ n4 (.bool x.perm) (.bool y.perm) _ (by rw [t4, o4]; exact eqX_part4 L lL _ _ _ _ w) (by rw [t4, o4]; exact eqX_part4 M lM _ _ _ _ w) (by rw [t4]; exact run_equalIn_bool' w 9998 _ _ _ Try.underlying4)]
  cases x.perm == y.perm <;> rfl
end Go.Proofs.Ytblidphaolgilaa
