import Derived.Test.YtpgfmpjepoedjaaDoorXB
namespace Go.X
set_option linter.unusedSimpArgs false
set_option linter.unusedVariables false
open Go Go.RowKit

/-! ## Two errors compared -/
section
variable {P : Program} {T t t' : TypeId} {x y : Value} {w : World} {d : Nat}
theorem eqII_ne (h : ifaceB P T = true) (hne : t ≠ t') : (Op.equalIn (d + 1) T (.iface t x) (.iface t' y)).run P w = .ok false w := by
  obtain ⟨ms, hu⟩ := ifaceB_spec h
  simp only [Op.equalIn, Sem.run_bind, run_underlying hu, Result.andThen_ok]
  simp [hne]
theorem eqII_same {b : Bool} {i : TypeInfo} (h : ifaceB P T = true) (hi : P.info? t = some i) (hc : i.comparable = true) (he : (Op.equalIn d t x y).run P w = .ok b w) : (Op.equalIn (d + 1) T (.iface t x) (.iface t y)).run P w = .ok b w := by
  obtain ⟨ms, hu⟩ := ifaceB_spec h
  simp only [Op.equalIn, Sem.run_bind, run_underlying hu, Result.andThen_ok]
  simp [typeInfo, hi, hc, he]
theorem xR_eqlII {K : Value → Prop} {c b : Bool} (h : ifaceB P T = true) (he : (Op.equalIn 10000 T (.iface t x) (.iface t' y)).run P w = .ok b w) : xR P (sEq .eql T c (.iface t x) (.iface t' y)) w K ↔ K (.bool b) := xR_of (by
  unfold sEq
  refine run_sB P _ w ?_
  simp only [Sem.run_bind, eqGuard, binOp, Op.equal, Op.maxDepth, Result.andThen_ok, Sem.run_pure]
  have : (eqGuard .eql T (bif c then .const undef else .tmp 0) (.tmp 0) (.iface t x) (.iface t' y)).run P w = .ok () w := by
    cases c <;> rfl
  first | (rw [he]; rfl) | simp [he])
def compB (P : Program) (T : TypeId) : Bool := match P.info? T with
  | some i => i.comparable
  | none => false
theorem compB_spec (h : compB P T = true) : ∃ i, P.info? T = some i ∧ i.comparable = true := by
  unfold compB at h
  cases hi : P.info? T with
  | none => rw [hi] at h; cases h
  | some i => rw [hi] at h; exact ⟨i, rfl, h⟩
theorem eqII_int {a b : Int} {k : IntKind} (h : ifaceB P T = true) (hc : compB P t = true) (hu : P.underlying t = some (.int k)) : (Op.equalIn (d + 2) T (.iface t (.int k a)) (.iface t (.int k b))).run P w = .ok (a == b) w := by
  obtain ⟨i, hi, hc⟩ := compB_spec hc
  exact eqII_same h hi hc (run_equalIn_int w d t k k a b hu)
theorem eqII_struct {xs ys : Array Value} {offs : List Nat} (h : ifaceB P T = true) (hc : compB P t = true) (hs : structB P t offs) (hx : ∀ o, o < xs.size → ∃ n, xs[o]? = some (.int .i64 n)) (hy : ∀ o, o < ys.size → ∃ n, ys[o]? = some (.int .i64 n)) (ho : ∀ o ∈ offs, o < xs.size ∧ o < ys.size) :
    (Op.equalIn (d + 3) T (.iface t (.agg xs)) (.iface t (.agg ys))).run P w = .ok (offs.all fun o => intAt xs o == intAt ys o) w := by
  obtain ⟨i, hi, hc⟩ := compB_spec hc
  refine eqII_same h hi hc ?_
  obtain ⟨h1, h2, h3, h4, h5⟩ := hs
  rw [run_equalIn_struct w (d + 1) t xs ys h1 h2, eqFields_ints hx hy d _ h4 (fun f hf => ho _ (by rw [← h5]; exact List.mem_map_of_mem hf)), ← h5, List.all_map]
  rfl
end
end Go.X
