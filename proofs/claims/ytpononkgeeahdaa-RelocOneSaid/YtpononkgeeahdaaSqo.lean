/-
  Layer 5: how bytes, and an act by value, come in.
  Conditions: none. (My own text.)
-/
import Derived.Test.YtpononkgeeahdaaSqa
namespace Go.Proofs.Ytpononkgeeahdaa
open Go.ChangeShapes Go.WideShapes Go.ChangeAt Go.RowKit Go.Deep Spm
set_option linter.unusedVariables false
set_option linter.unusedSimpArgs false
section
variable {H : Type} {enc : TypeId × Value → H} {w : World}
set_option maxRecDepth 100000 in
theorem open_bytesT {t : TypeId} {r : Reach} {b0 : Nat} {v : Value} {d : DataW H} {p : List MemPlace} (ht : Try.prog.underlying t = some (.slice 5)) (hv : Value.okWide Try.prog w r b0 t v)
    (h : DataW.Trod enc Try.prog w 0 (fun _ => true) true t v d p) : ∃ (A : Option Addr) (b : List UInt8) (c : Nat), v = .slice A b.length c ∧ b.length ≤ maxLen ∧ BytesAt w w.heap.size A b := by
  obtain ⟨a0, len0, cap0, rfl⟩ := okWide_slice ht hv
  obtain ⟨fuel, hf⟩ := h
  exact open_bytes ht (by simpa [Value.cells] using hf)
set_option maxRecDepth 100000 in
theorem open_act {t : TypeId} {r : Reach} {b0 : Nat} {v : Value} {d : DataW H} {p : List MemPlace} (ht : t = 74) (hv : Value.okWide Try.prog w r b0 t v)
    (h : DataW.Trod enc Try.prog w 0 (fun _ => true) true t v d p) : ∃ m : ActM, v = .agg #[.int .i64 m.x.d, .int .i64 m.x.at_, .int .i64 m.x.n, .int .i64 m.x.p, .slice m.A m.x.b.length m.c] ∧ ActOk w w.heap.size m := by
  subst ht
  obtain ⟨cs, rfl, hl, hf⟩ := open_ones Try.underlying74 (by kernel_rfl) (by kernel_rfl) hv h
  match cs, hl with
  | [a0, a1, a2, a3, a4], _ =>
  obtain ⟨n0, y0, e0⟩ := hf 0 _ _ rfl rfl
  obtain ⟨x0, rfl, w0⟩ := int_cell Try.underlying3 e0
  obtain ⟨n1, y1, e1⟩ := hf 1 _ _ rfl rfl
  obtain ⟨x1, rfl, w1⟩ := int_cell Try.underlying3 e1
  obtain ⟨n2, y2, e2⟩ := hf 2 _ _ rfl rfl
  obtain ⟨x2, rfl, w2⟩ := int_cell Try.underlying3 e2
  obtain ⟨n3, y3, e3⟩ := hf 3 _ _ rfl rfl
  obtain ⟨x3, rfl, w3⟩ := int_cell Try.underlying39 e3
  obtain ⟨n4, y4, e4⟩ := hf 4 _ _ rfl rfl
  obtain ⟨A, b, c, rfl, hbl, hba⟩ := open_bytes Try.underlying46 e4
  exact ⟨⟨⟨x0, x1, x2, x3, b⟩, A, c⟩, rfl, ⟨⟨i64_of w1, i64_of w2, i64_of w3, hbl⟩, hba⟩⟩
end
end Go.Proofs.Ytpononkgeeahdaa
