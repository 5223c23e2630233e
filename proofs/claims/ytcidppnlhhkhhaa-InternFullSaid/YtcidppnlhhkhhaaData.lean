/- The program's plain data as Lean sees them, and how they lie in cells. No program, no condition. -/
import Derived.Test.YtcidppnlhhkhhaaEng6
set_option linter.unusedVariables false
set_option linter.unusedSimpArgs false
namespace Go.E
open Go

def encI (x : Int) : List Value := [.int .i64 x]
def encB (x : Bool) : List Value := [.bool x]
def encU8 (x : UInt8) : List Value := [.int .u8 (x.toNat : Nat)]
theorem encI_len (x : Int) : (encI x).length = 1 := rfl
theorem encB_len (x : Bool) : (encB x).length = 1 := rfl
theorem encU8_len (x : UInt8) : (encU8 x).length = 1 := rfl
theorem encI_one : ∀ x, ∀ u ∈ encI x, u.oneCell' = true := fun x u hu => by simp [encI] at hu; subst hu; rfl
theorem encB_one : ∀ x, ∀ u ∈ encB x, u.oneCell' = true := fun x u hu => by simp [encB] at hu; subst hu; rfl
theorem encU8_one : ∀ x, ∀ u ∈ encU8 x, u.oneCell' = true := fun x u hu => by simp [encU8] at hu; subst hu; rfl

/-- A set of bytes: four words. -/
structure BSet where
  a : Nat
  b : Nat
  c : Nat
  d : Nat
  lt : a < 18446744073709551616 ∧ b < 18446744073709551616 ∧ c < 18446744073709551616 ∧ d < 18446744073709551616
  deriving DecidableEq
def BSet.zero : BSet := ⟨0, 0, 0, 0, by decide⟩
def setA (s : BSet) : Array Value := #[.int .u64 (s.a : Nat), .int .u64 (s.b : Nat), .int .u64 (s.c : Nat), .int .u64 (s.d : Nat)]
def setV (s : BSet) : Value := .agg (setA s)
def BSet.vals (s : BSet) : List Value := [.int .u64 (s.a : Nat), .int .u64 (s.b : Nat), .int .u64 (s.c : Nat), .int .u64 (s.d : Nat)]
def BSet.ok (s : BSet) : Prop := s.a < 18446744073709551616 ∧ s.b < 18446744073709551616 ∧ s.c < 18446744073709551616 ∧ s.d < 18446744073709551616
theorem BSet.isOk (s : BSet) : s.ok := s.lt
def BSet.word (s : BSet) (i : Nat) : Nat := if i = 0 then s.a else if i = 1 then s.b else if i = 2 then s.c else s.d

theorem BSet.word_lt {s : BSet} (h : s.ok) (i : Nat) : s.word i < 18446744073709551616 := by
  unfold BSet.word; obtain ⟨h1, h2, h3, h4⟩ := h
  repeat (first | split | assumption)
theorem setA_one (s : BSet) : ∀ u ∈ (setA s).toList, u.oneCell' = true := fun u hu => by
  simp [setA] at hu
  rcases hu with rfl | rfl | rfl | rfl <;> rfl
theorem setA_get (s : BSet) {i : Nat} (h : i < 4) : (setA s)[i]? = some (.int .u64 (s.word i : Nat)) := by
  match i, h with
  | 0, _ => rfl
  | 1, _ => rfl
  | 2, _ => rfl
  | 3, _ => rfl
/-- A word of a set that lies in a variable. -/
theorem OpVal.loadWord {P : Program} {n : Nat} {e : Env} {σ : Store} {H : List Res} {o : Oper} {x : Operand} {T b E i j : Nat} {s : BSet} (ho : o.op = .load T x) (hA : aggOf P T = some false) (hx : ev e x = loc b (0 + i * 1)) (hi : H[j]? = some (Res.cells b (setA s) E)) (hk : i < 4) : OpVal P n o e σ H (.int .u64 (s.word i : Nat)) := by
  refine OpVal.loadLoc ho hA hx hi ?_
  rw [show 0 + i * 1 = i from by omega]; exact setA_get s hk

theorem BSet.eq_iff (s t : BSet) : s = t ↔ ((s.a : Nat) : Int) = (t.a : Nat) ∧ ((s.b : Nat) : Int) = (t.b : Nat) ∧ ((s.c : Nat) : Int) = (t.c : Nat) ∧ ((s.d : Nat) : Int) = (t.d : Nat) := by
  cases s; cases t
  simp only [BSet.mk.injEq]
  omega
theorem BSet.zero_iff (s : BSet) : (((s.a : Nat) : Int) = 0 ∧ ((s.b : Nat) : Int) = 0 ∧ ((s.c : Nat) : Int) = 0 ∧ ((s.d : Nat) : Int) = 0) ↔ s = BSet.zero := by
  rw [BSet.eq_iff]; rfl

/-- Membership. -/
def BSet.has (s : BSet) (b : Nat) : Bool := decide (s.word (b / 64) / 2 ^ (b % 64) % 2 = 1)
def BSet.setWord (s : BSet) (i w : Nat) : BSet :=
  if i = 0 then ⟨w % 18446744073709551616, s.b, s.c, s.d, by have := s.lt; omega⟩ else if i = 1 then ⟨s.a, w % 18446744073709551616, s.c, s.d, by have := s.lt; omega⟩
  else if i = 2 then ⟨s.a, s.b, w % 18446744073709551616, s.d, by have := s.lt; omega⟩ else ⟨s.a, s.b, s.c, w % 18446744073709551616, by have := s.lt; omega⟩
theorem setA_set (s : BSet) {i : Nat} (h : i < 4) (w : Nat) (hw : w < 18446744073709551616) : (splice (setA s).toList i [.int .u64 (w : Nat)]).toArray = setA (s.setWord i w) := by
  have e : w % 18446744073709551616 = w := Nat.mod_eq_of_lt hw
  rw [← e]
  have e2 : w % 18446744073709551616 % 18446744073709551616 = w % 18446744073709551616 := by omega
  have e3 : s.setWord i (w % 18446744073709551616) = s.setWord i w := by simp only [BSet.setWord, e2]
  rw [e3]
  match i, h with
  | 0, _ => rfl
  | 1, _ => rfl
  | 2, _ => rfl
  | 3, _ => rfl
theorem BSet.word_set (s : BSet) {i : Nat} (h : i < 4) (w j : Nat) (hw : w < 18446744073709551616) (hj : j < 4) : (s.setWord i w).word j = if j = i then w else s.word j := by
  have e : w % 18446744073709551616 = w := Nat.mod_eq_of_lt hw
  rw [← e]
  have e2 : w % 18446744073709551616 % 18446744073709551616 = w % 18446744073709551616 := by omega
  have e3 : s.setWord i (w % 18446744073709551616) = s.setWord i w := by simp only [BSet.setWord, e2]
  rw [e3]
  match i, h, j, hj with
  | 0, _, 0, _ | 0, _, 1, _ | 0, _, 2, _ | 0, _, 3, _ | 1, _, 0, _ | 1, _, 1, _ | 1, _, 2, _ | 1, _, 3, _ | 2, _, 0, _ | 2, _, 1, _ | 2, _, 2, _ | 2, _, 3, _ | 3, _, 0, _ | 3, _, 1, _ | 3, _, 2, _ | 3, _, 3, _ => rfl
theorem BSet.ext_word {s t : BSet} (h : ∀ i, i < 4 → s.word i = t.word i) : s = t := by
  have h0 := h 0 (by omega)
  have h1 := h 1 (by omega)
  have h2 := h 2 (by omega)
  have h3 := h 3 (by omega)
  cases s; cases t
  simp only [BSet.word] at h0 h1 h2 h3
  simp_all
theorem BSet.ok_of {s : BSet} (h : ∀ i, i < 4 → s.word i < 18446744073709551616) : s.ok := ⟨h 0 (by omega), h 1 (by omega), h 2 (by omega), h 3 (by omega)⟩
/-- A word of a set that lies in a variable is written. -/
theorem OpOk.storeWord {X : Ctx} {e : Env} {σ : Store} {F : List Res} {o : Oper} {x y : Operand} {K : Env → Store → List Res → Prop} {T b E i w : Nat} {s : BSet} (ho : o.op = .store T x y) (hs : szOf X.P T = some 1) (hd : o.dst = none) (hx : ev e x = loc b (0 + i * 1)) (hv : ev e y = .int .u64 (w : Nat)) (hi : i < 4) (hw : w < 18446744073709551616)
    (kk : K e σ (Res.cells b (setA (s.setWord i w)) E :: F)) : OpOk X o e σ (Res.cells b (setA s) E :: F) K := by
  have hx' : ev e x = loc b i := by rw [hx]; congr 1; omega
  refine OpOk.store (v := .int .u64 (w : Nat)) ho hs hd hx' hv rfl (by intro u hu; simp [Value.cells] at hu; subst hu; rfl) ?_ (setA_set s hi w hw) kk
  match i, hi with
  | 0, _ | 1, _ | 2, _ | 3, _ => rfl

/-- A word out of what is in. -/
def sumTo (f : Nat → Bool) (i : Nat) : Nat → Nat
  | 0 => 0
  | k + 1 => sumTo f i k + if f (64 * i + k) then 2 ^ k else 0
theorem sumTo_lt (f : Nat → Bool) (i : Nat) : ∀ k, sumTo f i k < 2 ^ k
  | 0 => by simp [sumTo]
  | k + 1 => by
    have := sumTo_lt f i k
    have h2 : 2 ^ (k + 1) = 2 ^ k + 2 ^ k := by rw [Nat.pow_succ]; omega
    unfold sumTo
    split <;> omega
theorem sumTo_bit (f : Nat → Bool) (i : Nat) : ∀ k j, (sumTo f i k).testBit j = (decide (j < k) && f (64 * i + j))
  | 0, j => by simp [sumTo]
  | k + 1, j => by
    have hlt := sumTo_lt f i k
    have ih := sumTo_bit f i k
    unfold sumTo
    by_cases hf : f (64 * i + k) = true
    · rw [if_pos hf, Nat.add_comm]
      rcases Nat.lt_trichotomy j k with h | h | h
      · rw [Nat.testBit_two_pow_add_gt h, ih j]
        have : j < k + 1 := by omega
        simp [h, this]
      · subst h
        rw [Nat.testBit_two_pow_add_eq, ih j]
        simp [hf]
      · have h2 : 2 ^ k + sumTo f i k < 2 ^ j := Nat.lt_of_lt_of_le (show 2 ^ k + sumTo f i k < 2 ^ (k + 1) from by rw [Nat.pow_succ]; omega) (Nat.pow_le_pow_right (by omega) h)
        rw [Nat.testBit_lt_two_pow h2]
        have : ¬ j < k + 1 := by omega
        simp [this]
    · rw [if_neg hf, Nat.add_zero, ih j]
      by_cases h : j < k
      · have : j < k + 1 := by omega
        simp [h, this]
      · by_cases h2 : j = k
        · subst h2; simp [hf]
        · have : ¬ j < k + 1 := by omega
          simp [h, this]
/-- The set of what is in. -/
def BSet.make (f : Nat → Bool) : BSet := ⟨sumTo f 0 64, sumTo f 1 64, sumTo f 2 64, sumTo f 3 64, sumTo_lt f 0 64, sumTo_lt f 1 64, sumTo_lt f 2 64, sumTo_lt f 3 64⟩
theorem BSet.make_word (f : Nat → Bool) {i : Nat} (h : i < 4) : (BSet.make f).word i = sumTo f i 64 := by
  match i, h with
  | 0, _ | 1, _ | 2, _ | 3, _ => rfl
theorem BSet.make_ok (f : Nat → Bool) : (BSet.make f).ok := BSet.ok_of fun i hi => by rw [BSet.make_word f hi]; exact sumTo_lt f i 64
theorem BSet.make_zero : BSet.make (fun _ => false) = BSet.zero := by
  refine BSet.ext_word fun i hi => ?_
  rw [BSet.make_word _ hi]
  have : sumTo (fun _ => false) i 64 = 0 := Nat.eq_of_testBit_eq fun j => by rw [sumTo_bit]; simp
  rw [this]
  match i, hi with
  | 0, _ | 1, _ | 2, _ | 3, _ => rfl
theorem BSet.make_congr {f g : Nat → Bool} (h : ∀ i, i < 256 → f i = g i) : BSet.make f = BSet.make g := by
  refine BSet.ext_word fun i hi => ?_
  rw [BSet.make_word _ hi, BSet.make_word _ hi]
  refine Nat.eq_of_testBit_eq fun j => ?_
  rw [sumTo_bit, sumTo_bit]
  by_cases hj : j < 64
  · rw [h (64 * i + j) (by omega)]
  · simp [hj]
/-- One byte more, by 'or'. -/
theorem BSet.make_or (f : Nat → Bool) {b : Nat} (hb : b < 256) : (BSet.make f).setWord (b / 64) ((BSet.make f).word (b / 64) ||| 1 * 2 ^ (b % 64)) = BSet.make (fun i => f i || decide (i = b)) := by
  refine BSet.ext_word fun i hi => ?_
  rw [BSet.word_set _ (by omega) _ _ (Nat.or_lt_two_pow (n := 64) (BSet.word_lt (BSet.isOk _) _) (by rw [Nat.one_mul]; exact Nat.pow_lt_pow_right (by omega) (by omega))) hi, BSet.make_word _ hi, BSet.make_word _ hi, BSet.make_word _ (by omega)]
  split
  · subst_vars
    refine Nat.eq_of_testBit_eq fun j => ?_
    rw [Nat.testBit_or, sumTo_bit, sumTo_bit, Nat.one_mul, Nat.testBit_two_pow]
    by_cases hj : j < 64
    · have : decide (b % 64 = j) = decide (64 * (b / 64) + j = b) := by rw [decide_eq_decide]; omega
      simp [hj, this]
    · have : ¬ b % 64 = j := by omega
      simp [hj, this]
  · refine Nat.eq_of_testBit_eq fun j => ?_
    rw [sumTo_bit, sumTo_bit]
    by_cases hj : j < 64
    · have : ¬ 64 * i + j = b := by omega
      simp [this]
    · simp [hj]
theorem BSet.make_has (f : Nat → Bool) {b : Nat} (hb : b < 256) : (BSet.make f).has b = f b := by
  unfold BSet.has
  rw [BSet.make_word _ (by omega)]
  have h := sumTo_bit f (b / 64) 64 (b % 64)
  have h1 : b % 64 < 64 := by omega
  have h2 : 64 * (b / 64) + b % 64 = b := by omega
  rw [h2] at h
  simp only [h1, decide_true, Bool.true_and] at h
  rw [← h, Nat.testBit_eq_decide_div_mod_eq]
/-- The set of the bytes of a list. -/
def BSet.ofL (l : List UInt8) : BSet := BSet.make fun i => l.any fun u => decide (i = u.toNat)


structure Arrow where
  frm : Int
  to : Int
  set : BSet
  deriving DecidableEq
def Arrow.zero : Arrow := ⟨0, 0, BSet.zero⟩
def encE (x : Arrow) : List Value := [.int .i64 x.frm, .int .i64 x.to, .int .u64 (x.set.a : Nat), .int .u64 (x.set.b : Nat), .int .u64 (x.set.c : Nat), .int .u64 (x.set.d : Nat)]
theorem encE_len (x : Arrow) : (encE x).length = 6 := rfl
theorem encE_one : ∀ x, ∀ u ∈ encE x, u.oneCell' = true := fun x u hu => by
  simp [encE] at hu
  rcases hu with rfl | rfl | rfl | rfl | rfl | rfl <;> rfl

structure Nfa where
  states : Int
  starts : List Int
  ends : List Int
  edges : List Arrow
  deriving DecidableEq

structure NfaP where
  a1 : Option Addr
  c1 : Nat
  a2 : Option Addr
  c2 : Nat
  a3 : Option Addr
  c3 : Nat
def nfaA (n : Nfa) (p : NfaP) : Array Value := #[.int .i64 n.states, .slice p.a1 n.starts.length p.c1, .slice p.a2 n.ends.length p.c2, .slice p.a3 n.edges.length p.c3]
def nfaV (n : Nfa) (p : NfaP) : Value := .agg (nfaA n p)
theorem nfaA_one (n : Nfa) (p : NfaP) : ∀ u ∈ (nfaA n p).toList, u.oneCell' = true := fun u hu => by
  simp [nfaA] at hu
  rcases hu with rfl | rfl | rfl | rfl <;> rfl
structure RNfa (σ : Store) (n : Nfa) (p : NfaP) : Prop where
  s : RS σ 1 encI (.slice p.a1 n.starts.length p.c1) n.starts
  e : RS σ 1 encI (.slice p.a2 n.ends.length p.c2) n.ends
  d : RS σ 6 encE (.slice p.a3 n.edges.length p.c3) n.edges
  ok : ∀ x ∈ n.edges, x.set.ok
theorem RNfa.mono {σ τ : Store} {n : Nfa} {p : NfaP} (h : RNfa σ n p) (hle : σ.le τ) : RNfa τ n p := ⟨h.s.mono hle, h.e.mono hle, h.d.mono hle, h.ok⟩
/-- The maker's edges: one more. -/
def EdgeP (T E b : Nat) (l : List Arrow) (x : Arrow) (σ : Store) : Value → Store → List Res → Prop := fun r σ' H' =>
  r = .tuple #[] ∧ σ' = σ ∧ ∃ a c, H' = [Res.cells b #[.slice a (l ++ [x]).length c] T, Res.rowS E 6 encE (.slice a (l ++ [x]).length c) (l ++ [x])]
theorem retE {P : Program} {fn : Func} {n : Nat} {e : Env} {σ : Store} {F : List Res} {T E b c : Nat} {a : Option Addr} {l : List Arrow} {x : Arrow} {ex : Exit} (hex : ex = .ret ∨ ex = .normal) (hr : fn.results = #[]) : RetOk P fn n (EdgeP T E b l x σ) ex e σ (Res.cells b #[.slice a (l ++ [x]).length c] T :: Res.rowS E 6 encE (.slice a (l ++ [x]).length c) (l ++ [x]) :: F) :=
  RetOk.of [_, _] hex (RetVal.none hr) (List.Sublist.cons_cons _ (List.Sublist.cons_cons _ (List.nil_sublist _))) ⟨rfl, rfl, a, c, rfl⟩
theorem OpOk.callE {X : Ctx} {e : Env} {σ : Store} {H F : List Res} {o : Oper} {x : Operand} {K : Env → Store → List Res → Prop} {f d : Nat} {as : Array Operand} {ts : Array TypeId} {first cap : Array Value} {args : List Value} {T E b : Nat} {l : List Arrow} {q : Arrow} {H1 : List Res} (hc : Con X.P f args.toArray σ H1 (EdgeP T E b l q σ)) (ho : o.op = .call { callee := .value x, args := as, argTypes := ts })
    (hx : ev e x = .func (.func f) first cap) (hp : plainF X.P f = true) (hargs : first.toList ++ (as.toList.map (ev e) ++ cap.toList) = args) (hd : o.dst = some d) (hn : Nat.blt d X.n = true) (hH : H1 ++ F = H)
    (k : ∀ a c, K (upd e d (.tuple #[])) σ (Res.cells b #[.slice a (l ++ [q]).length c] T :: Res.rowS E 6 encE (.slice a (l ++ [q]).length c) (l ++ [q]) :: F)) : OpOk X o e σ H K :=
  OpOk.call (H1 := H1) hc ho hx hp hargs hd hn hH fun r σ' H' _ ⟨h1, h2, a, c, h3⟩ => by subst h1 h2 h3; exact k a c

/-- A maker handed back. -/
def MakerP (T E : Nat) (l : List Arrow) (σ : Store) : Value → Store → List Res → Prop := fun r σ' H' =>
  ∃ b a c, r = loc b 0 ∧ σ' = σ ∧ H' = [Res.cells b #[.slice a l.length c] T, Res.rowS E 6 encE (.slice a l.length c) l]
theorem OpOk.callM {X : Ctx} {e : Env} {σ : Store} {H : List Res} {o : Oper} {x : Operand} {K : Env → Store → List Res → Prop} {f d : Nat} {as : Array Operand} {ts : Array TypeId} {first cap : Array Value} {args : List Value} {T E : Nat} {l : List Arrow} (hc : Con X.P f args.toArray σ [] (MakerP T E l σ)) (ho : o.op = .call { callee := .value x, args := as, argTypes := ts })
    (hx : ev e x = .func (.func f) first cap) (hp : plainF X.P f = true) (hargs : first.toList ++ (as.toList.map (ev e) ++ cap.toList) = args) (hd : o.dst = some d) (hn : Nat.blt d X.n = true)
    (k : ∀ b a c, K (upd e d (loc b 0)) σ (Res.cells b #[.slice a l.length c] T :: Res.rowS E 6 encE (.slice a l.length c) l :: H)) : OpOk X o e σ H K :=
  OpOk.call (H1 := []) hc ho hx hp hargs hd hn rfl fun r σ' H' _ ⟨b, a, c, h1, h2, h3⟩ => by subst h1 h2 h3; exact k b a c
theorem retM {P : Program} {fn : Func} {n : Nat} {e : Env} {σ : Store} {F : List Res} {t T E b c : Nat} {a : Option Addr} {l : List Arrow} (hr : fn.results = #[.tmp t]) (ht : e t = loc b 0) : RetOk P fn n (MakerP T E l σ) .ret e σ (Res.cells b #[.slice a l.length c] T :: Res.rowS E 6 encE (.slice a l.length c) l :: F) :=
  RetOk.of [_, _] (.inl rfl) ((RetVal.one hr).eq ht) (List.Sublist.cons_cons _ (List.Sublist.cons_cons _ (List.nil_sublist _))) ⟨b, a, c, rfl, rfl, rfl⟩

def Nfa.zero : Nfa := ⟨0, [], [], []⟩
def NfaP.zero : NfaP := ⟨none, 0, none, 0, none, 0⟩
theorem RNfa.zero (σ : Store) : RNfa σ Nfa.zero NfaP.zero := ⟨⟨RV.nil σ 1, encI_len⟩, ⟨RV.nil σ 1, encI_len⟩, ⟨RV.nil σ 6, encE_len⟩, by simp [Nfa.zero]⟩
/-- An automaton and an error's number handed back. -/
def NfaR (n : Nfa) (x : Int) : Value → Store → List Res → Prop := fun r σ' H' => ∃ p, r = .tuple #[nfaV n p, .int .i64 x] ∧ RNfa σ' n p ∧ H' = []
/-- An automaton handed back. -/
def NfaR1 (n : Nfa) : Value → Store → List Res → Prop := fun r σ' H' => ∃ p, r = nfaV n p ∧ RNfa σ' n p ∧ H' = []

theorem retNfa {P : Program} {fn : Func} {n : Nat} {e : Env} {σ : Store} {H : List Res} {t T b E u : Nat} {cs : Array Value} {m : Nfa} {p : NfaP} {x : Int} (i : Nat) (hr : fn.results = #[.cell t T, .tmp u]) (hA : aggOf P T = some true) (hz : szOf P T = some 4) (ht : e t = loc b 0) (hi : H[i]? = some (Res.cells b cs E)) (hc : cs = nfaA m p) (hu : e u = .int .i64 x) (hR : RNfa σ m p) : RetOk P fn n (NfaR m x) .ret e σ H := by
  subst hc
  exact RetOk.of [] (.inl rfl) ((RetVal.cellTmp hr hA hz ht hi rfl).eq (by rw [hu]; rfl)) (List.nil_sublist _) ⟨p, rfl, hR, rfl⟩
theorem retNfa1 {P : Program} {fn : Func} {n : Nat} {e : Env} {σ : Store} {H : List Res} {t T b E : Nat} {cs : Array Value} {m : Nfa} {p : NfaP} (i : Nat) (hr : fn.results = #[.cell t T]) (hA : aggOf P T = some true) (hz : szOf P T = some 4) (ht : e t = loc b 0) (hi : H[i]? = some (Res.cells b cs E)) (hc : cs = nfaA m p) (hR : RNfa σ m p) : RetOk P fn n (NfaR1 m) .ret e σ H := by
  subst hc
  exact RetOk.of [] (.inl rfl) (RetVal.cell hr hA hz ht hi rfl) (List.nil_sublist _) ⟨p, rfl, hR, rfl⟩
end Go.E
