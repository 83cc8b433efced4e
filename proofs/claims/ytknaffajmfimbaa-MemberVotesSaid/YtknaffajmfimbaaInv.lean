/- Methods of a *greatest, called through heap.Interface. -/
import Derived.Test.YtknaffajmfimbaaMeL
namespace Go.Proofs.Ytknaffajmfimbaa.PHe
open Go.RowKit Go.Proofs.YtknaffajmfimbaaW.PrintWords Go.Proofs.YtknaffajmfimbaaW.PrintLast Go.Proofs.YtknaffajmfimbaaW.PrintMore
open Go.Proofs Go.Proofs.Ytknaffajmfimbaa
set_option linter.unusedVariables false
set_option linter.unusedSimpArgs false
set_option maxHeartbeats 4000000
set_option maxRecDepth 100000

theorem load97 (w : World) (b n c : Nat) (A : Option Addr) (h : w.cell? ⟨b, 0, none⟩ = some (.slice A n c)) : (loadVar 97 ⟨b, 0, none⟩).run Try.prog w = .ok (.slice A n c) w := by
  go_simp
theorem x1 (w : World) (b : Nat) (nm : String) : (receiverAt 45 (.val (.pointer (some ⟨b, 0, none⟩))) false (some nm)).run Try.prog w = (loadVar 97 ⟨b, 0, none⟩).run Try.prog w := by kernel_rfl
theorem meth (fuel : Nat) (nm : String) (f : FuncId) (w : World) (b : Nat) (i45 : TypeInfo) (m : Method) (hi : ∀ w, (typeInfo 45).run Try.prog w = .ok i45 w) (hm : i45.methods.find? (·.name == nm) = some m) (hp : m.path = #[]) (hf : m.func = some (f, false)) (v : Value) (hv : (loadVar 97 ⟨b, 0, none⟩).run Try.prog w = .ok v w) :
    (method (fuel + 1) 45 (.pointer (some ⟨b, 0, none⟩)) nm).run Try.prog w = .ok (f, v) w := by
  unfold method
  simp [hi, hm, hp, hf, follow, x1, hv]
theorem hi45 (i : TypeInfo) (h : Try.prog.info? 45 = some i) (w : World) : (typeInfo 45).run Try.prog w = .ok i w := by
  simp [typeInfo, h]
theorem inv_any (nm : String) (f : FuncId) (w : World) (b : Nat) (v : Value) (args : Array Value) (hf : ∃ i m, Try.prog.info? 45 = some i ∧ i.methods.find? (·.name == nm) = some m ∧ m.path = #[] ∧ m.func = some (f, false)) (hv : (loadVar 97 ⟨b, 0, none⟩).run Try.prog w = .ok v w) (hc : ∀ args w, (callFunc f args).run Try.prog w = .ok (.enter f args) w) :
    (callMethod (.iface 45 (.pointer (some ⟨b, 0, none⟩))) nm args).run Try.prog w = .ok (.enter f (#[v] ++ args)) w := by
  obtain ⟨i, m, h1, h2, h3, h4⟩ := hf
  have hm := meth (Try.prog.types.size + Made.depth - 1) nm f w b i m (hi45 i h1) h2 h3 h4 v hv
  rw [show Try.prog.types.size + Made.depth - 1 + 1 = Try.prog.types.size + Made.depth by decide +kernel] at hm
  unfold callMethod
  have hpg : ∀ w, (program).run Try.prog w = .ok Try.prog w := fun w => rfl
  simp only [Sem.run_bind, hpg, Result.andThen_ok, hm, hc]
theorem m45 (nm : String) (f : FuncId) (h : ((Try.prog.info? 45).bind fun i => (i.methods.find? (·.name == nm)).map fun m => (m.path.size, m.func)) = some (0, some (f, false))) : ∃ i m, Try.prog.info? 45 = some i ∧ i.methods.find? (·.name == nm) = some m ∧ m.path = #[] ∧ m.func = some (f, false) := by
  rw [Option.bind_eq_some_iff] at h
  obtain ⟨i, hi, h⟩ := h
  rw [Option.map_eq_some_iff] at h
  obtain ⟨m, hm, h⟩ := h
  injection h with h1 h2
  exact ⟨i, m, hi, hm, Array.eq_empty_of_size_eq_zero h1, h2⟩
theorem inv_len (w : World) (b n c : Nat) (A : Option Addr) (h : w.cell? ⟨b, 0, none⟩ = some (.slice A n c)) : (callMethod (.iface 45 (.pointer (some ⟨b, 0, none⟩))) "Len" #[]).run Try.prog w = .ok (.enter 75 #[.slice A n c]) w :=
  inv_any "Len" 75 w b _ _ (m45 "Len" 75 (by kernel_rfl)) (load97 w b n c A h) (enters_of Try.func75 (by kernel_rfl) rfl)
theorem inv_less (w : World) (b n c : Nat) (A : Option Addr) (i j : Int) (h : w.cell? ⟨b, 0, none⟩ = some (.slice A n c)) : (callMethod (.iface 45 (.pointer (some ⟨b, 0, none⟩))) "Less" #[.int .i64 i, .int .i64 j]).run Try.prog w = .ok (.enter 76 #[.slice A n c, .int .i64 i, .int .i64 j]) w :=
  inv_any "Less" 76 w b _ _ (m45 "Less" 76 (by kernel_rfl)) (load97 w b n c A h) (enters_of Try.func76 (by kernel_rfl) rfl)
theorem inv_swap (w : World) (b n c : Nat) (A : Option Addr) (i j : Int) (h : w.cell? ⟨b, 0, none⟩ = some (.slice A n c)) : (callMethod (.iface 45 (.pointer (some ⟨b, 0, none⟩))) "Swap" #[.int .i64 i, .int .i64 j]).run Try.prog w = .ok (.enter 78 #[.slice A n c, .int .i64 i, .int .i64 j]) w :=
  inv_any "Swap" 78 w b _ _ (m45 "Swap" 78 (by kernel_rfl)) (load97 w b n c A h) (enters_of Try.func78 (by kernel_rfl) rfl)
theorem inv_pop (w : World) (b : Nat) : (callMethod (.iface 45 (.pointer (some ⟨b, 0, none⟩))) "Pop" #[]).run Try.prog w = .ok (.enter 77 #[.pointer (some ⟨b, 0, none⟩)]) w := by
  kernel_rfl
theorem meth_any (nm : String) (f : FuncId) (w : World) (b n c : Nat) (A : Option Addr) (hf : ∃ i m, Try.prog.info? 45 = some i ∧ i.methods.find? (·.name == nm) = some m ∧ m.path = #[] ∧ m.func = some (f, false)) (h : w.cell? ⟨b, 0, none⟩ = some (.slice A n c)) :
    (method 200 45 (.pointer (some ⟨b, 0, none⟩)) nm).run Try.prog w = .ok (f, .slice A n c) w := by
  obtain ⟨i, m, h1, h2, h3, h4⟩ := hf
  exact meth 199 nm f w b i m (hi45 i h1) h2 h3 h4 _ (load97 w b n c A h)
theorem meth_len (w : World) (b n c : Nat) (A : Option Addr) (h : w.cell? ⟨b, 0, none⟩ = some (.slice A n c)) : (method 200 45 (.pointer (some ⟨b, 0, none⟩)) "Len").run Try.prog w = .ok (75, .slice A n c) w := meth_any "Len" 75 w b n c A (m45 "Len" 75 (by kernel_rfl)) h
theorem meth_less (w : World) (b n c : Nat) (A : Option Addr) (h : w.cell? ⟨b, 0, none⟩ = some (.slice A n c)) : (method 200 45 (.pointer (some ⟨b, 0, none⟩)) "Less").run Try.prog w = .ok (76, .slice A n c) w := meth_any "Less" 76 w b n c A (m45 "Less" 76 (by kernel_rfl)) h
theorem meth_swap (w : World) (b n c : Nat) (A : Option Addr) (h : w.cell? ⟨b, 0, none⟩ = some (.slice A n c)) : (method 200 45 (.pointer (some ⟨b, 0, none⟩)) "Swap").run Try.prog w = .ok (78, .slice A n c) w := meth_any "Swap" 78 w b n c A (m45 "Swap" 78 (by kernel_rfl)) h
theorem meth_pop (w : World) (b : Nat) : (method 200 45 (.pointer (some ⟨b, 0, none⟩)) "Pop").run Try.prog w = .ok (77, .pointer (some ⟨b, 0, none⟩)) w := by kernel_rfl
theorem ef75 : ∀ args w, (callFunc 75 args).run Try.prog w = .ok (.enter 75 args) w := enters_of Try.func75 (by kernel_rfl) rfl
theorem ef76 : ∀ args w, (callFunc 76 args).run Try.prog w = .ok (.enter 76 args) w := enters_of Try.func76 (by kernel_rfl) rfl
theorem ef77 : ∀ args w, (callFunc 77 args).run Try.prog w = .ok (.enter 77 args) w := enters_of Try.func77 (by kernel_rfl) rfl
theorem ef78 : ∀ args w, (callFunc 78 args).run Try.prog w = .ok (.enter 78 args) w := enters_of Try.func78 (by kernel_rfl) rfl

end Go.Proofs.Ytknaffajmfimbaa.PHe
