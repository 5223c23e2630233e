/- The library's sort at the types that the program sorts. Conditions: none. -/
import Derived.Test.YtpijipnmfkehcaaL2
import Derived.Test.YtpijipnmfkehcaaF2p
set_option linter.unusedVariables false
set_option linter.unusedSimpArgs false
namespace Go.Proofs.Ytpijipnmfkehcaa
open Go Go.E
set_option maxRecDepth 100000
instance : Inhabited Tip := ⟨Tip.zero⟩
instance : Inhabited Arc := ⟨Arc.zero⟩
theorem sortS_con {σ : Store} {a : Option Addr} {c : Nat} {l : List (List UInt8)} : Con Try.prog 42 #[.slice a l.length c, .func (.func 23) #[] #[]] σ [Res.rowS 9 1 encS (.slice a l.length c) l] (SortP 9 1 encS a c l (sortL Lib.compareBytes l) σ) :=
  Con.sort1 (enc := keyS) layS layS0 rfl (fun _ => rfl) (fun _ => rfl) cmpB_good.total (fun args w => run_callFunc (by kernel_rfl) args w) (fun x y τ => strings_Compare_con (strings_Compare_eq x y))
theorem sortI_con {σ : Store} {a : Option Addr} {c : Nat} {l : List Int} : Con Try.prog 70 #[.slice a l.length c, .func (.func 53) #[] #[]] σ [Res.rowS 3 1 Go.E.encI (.slice a l.length c) l] (SortP 3 1 Go.E.encI a c l (sortL cmpI l) σ) :=
  Con.sort1 (enc := keyI) layI layI0 rfl (fun _ => rfl) (fun _ => rfl) cmpI_good.total (fun args w => run_callFunc (by kernel_rfl) args w) (fun x y τ => cmp_Compare_con (cmp_Compare_eq x y))
theorem sortT_con {σ : Store} {a : Option Addr} {c : Nat} {l : List Tip} : Con Try.prog 50 #[.slice a l.length c, .func (.func 33) #[] #[]] σ [Res.rowS 57 2 encTip (.slice a l.length c) l] (SortP 57 2 encTip a c l (sortL cmpTip l) σ) :=
  Con.sortK (k := 2) layT0 rfl Try.isAgg57 Try.sizeOf57 encTip_len encTip_one cmpTip_good.total (fun args w => run_callFunc (by kernel_rfl) args w) (fun x y τ => fst_compareTips_con (compareTips_eq x y))
theorem sortA_con {σ : Store} {a : Option Addr} {c : Nat} {l : List Arc} : Con Try.prog 55 #[.slice a l.length c, .func (.func 35) #[] #[]] σ [Res.rowS 41 8 encArc (.slice a l.length c) l] (SortP 41 8 encArc a c l (sortL cmpArc l) σ) :=
  Con.sortK (k := 8) layA0 rfl Try.isAgg41 Try.sizeOf41 encArc_len encArc_one cmpArc_good.total (fun args w => run_callFunc (by kernel_rfl) args w) (fun x y τ => fst_compareArcs_con (compareArcs_eq x y))
end Go.Proofs.Ytpijipnmfkehcaa
