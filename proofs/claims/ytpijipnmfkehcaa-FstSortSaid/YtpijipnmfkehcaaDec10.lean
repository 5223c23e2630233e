/- More of rows in a row. Plain lemmas over any program; no condition. -/
import Derived.Test.YtpijipnmfkehcaaDec9
set_option linter.unusedVariables false
set_option linter.unusedSimpArgs false
namespace Go.E
open Go
section
variable {β : Type} {E' E size : Nat} {enc : β → List Value} {v : Value}
theorem sees_nestX {σ : Store} {H : List Res} {q i : Nat} {z : List (NP β)} (hq : H[q]? = some (Res.nestX E' E size enc v z i)) (w : World) (h : Sees σ H w) : Sees σ [Res.rowS E' 1 encN v z] w :=
  ⟨h.1, fun r hr => by
    simp at hr; subst hr
    exact h.2 _ (List.mem_of_getElem? hq) _ (List.mem_cons_self ..)⟩
theorem isSl_nestX {σ : Store} {H : List Res} {q i : Nat} {z : List (NP β)} {l : List (List β)} (hq : H[q]? = some (Res.nestX E' E size enc v z i)) (hZ : Zn z l) (w : World) (h : Sees σ H w) : IsSl v l.length ∧ l.length ≤ 281474976710656 := by
  have := isSl_seen (H := H) (sees_nestX hq w h)
  rw [hZ.len] at this; exact this
end
/-- A drawn region of which only a part of the resources stays as it is. -/
theorem TC.drawR {X : Ctx} {Q : QP} {id : Nat} {ops : Array Oper} {e : Env} {σ : Store} {H Hr : List Res} (hs : ∀ r ∈ Hr, r ∈ H) (late : List Nat) (hm : X.P.follows .mixedOrders = true) (h : TA X ops Q σ Hr late ops.size (Array.replicate ops.size false) e σ H) : TC X Q (.region id ops true) e σ H := fun w a hw ha =>
  Go.wp_mono (wp_region_any hm (wpAny_of_late _ _ _ _ (h w.drew a hw.drew (sees_of (Store.le.refl _) hs _ hw.drew.sees) (closed_start _ _) ha))) fun ex a w h => by
    cases ex <;> first | exact h | exact h.elim
section
variable {P : Program} {n : Nat} {e : Env} {σ : Store} {H : List Res} {o : Oper} {x y : Operand} {T T' : TypeId} {k : IntKind} {a b : Int}
theorem OpVal.quoW (ho : o.op = .binOp .quo T x y T') (hx : ev e x = .int k a) (hy : ev e y = .int k b) (h : b ≠ 0) : OpVal P n o e σ H (.int k (k.wrap (a.tdiv b))) := .bin ho hx hy fun w => by simp [binOp, Op.intDiv, h]
theorem OpVal.remW (ho : o.op = .binOp .rem T x y T') (hx : ev e x = .int k a) (hy : ev e y = .int k b) (h : b ≠ 0) : OpVal P n o e σ H (.int k (a.tmod b)) := .bin ho hx hy fun w => by simp [binOp, Op.intDiv, h]
end
end Go.E
