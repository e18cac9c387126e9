/- Merged: XBp XBe XBf XBg XBh. -/
import Derived.Test.YtgjhikjnlcbmkaaW1
import Derived.Test.YtgjhikjnlcbmkaaMo
set_option linter.unusedVariables false
set_option linter.unusedSimpArgs false
/- Sums, amplitudes, runs: plain definitions and laws on lists and numbers. Nothing of the program. -/
namespace Go.Proofs.Ytgjhikjnlcbmkaa
open Go.RowKit

def sq (p o q : Int) : List Int → Int → Int
  | [], _ => 0
  | x :: l, k => (if qtr p o k = q then x else 0) + sq p o q l (k + 1)
theorem sq_snoc (p o q : Int) (l : List Int) (x k : Int) : sq p o q (l ++ [x]) k = sq p o q l k + if qtr p o (k + l.length) = q then x else 0 := by
  induction l generalizing k with
  | nil => simp [sq]
  | cons y l ih =>
    rw [List.cons_append, sq, sq, ih]
    have : k + 1 + (l.length : Int) = k + ((y :: l).length : Int) := by rw [List.length_cons]; omega
    rw [this]
    omega
def Bnd (B : Int) (l : List Int) : Prop := ∀ x ∈ l, -B ≤ x ∧ x ≤ B
theorem Bnd.get {B : Int} {l : List Int} (h : Bnd B l) {k : Nat} (hk : k < l.length) : -B ≤ l[k] ∧ l[k] ≤ B := h _ (List.getElem_mem hk)
theorem Bnd.take {B : Int} {l : List Int} (h : Bnd B l) (k : Nat) : Bnd B (l.take k) := fun x hx => h x (List.mem_of_mem_take hx)
theorem Bnd.drop {B : Int} {l : List Int} (h : Bnd B l) (k : Nat) : Bnd B (l.drop k) := fun x hx => h x (List.mem_of_mem_drop hx)
theorem sq_bnd {B : Int} (hB : 0 ≤ B) (p o q : Int) (l : List Int) (k : Int) (h : Bnd B l) : -(B * l.length) ≤ sq p o q l k ∧ sq p o q l k ≤ B * l.length := by
  induction l generalizing k with
  | nil => simp [sq]
  | cons x l ih =>
    have h1 := ih (k + 1) (fun y hy => h y (List.mem_cons_of_mem _ hy))
    have h2 := h x List.mem_cons_self
    rw [sq, List.length_cons]
    have e : B * ((l.length + 1 : Nat) : Int) = B * l.length + B := by
      rw [show ((l.length + 1 : Nat) : Int) = (l.length : Int) + 1 by omega, Int.mul_add, Int.mul_one]
    rw [e]
    split <;> omega
def bothErr (xs : List Int) (nm : ByteArray) (p o : Int) : Int := fst0 [recErr xs, drumErr nm p o]
def turnErr (xs : List Int) (nm : ByteArray) (p o : Int) : Int := fst0 [bothErr xs nm p o, unl (decide (p ≤ xs.length)) 10]
def cnt (n : Nat) (p : Int) : Nat := n / p.toNat * p.toNat
def rsum (p o : Int) (xs : List Int) (k0 q : Int) : Int := sq p o q (xs.take (cnt xs.length p)) k0
theorem rsum_bnd {p o : Int} {xs : List Int} {k0 q : Int} (hB : Bnd 4000000 xs) (hm : xs.length ≤ 1000) : (rsum p o xs k0 q).natAbs ≤ 4000000000 := by
  have := sq_bnd (by omega) p o q (xs.take (cnt xs.length p)) k0 (hB.take _)
  have hl : (xs.take (cnt xs.length p)).length ≤ 1000 := by rw [List.length_take]; omega
  unfold rsum
  omega
theorem cnt_pos {n : Nat} {p : Int} (h : 4 ≤ p) (h2 : p ≤ n) : 0 < cnt n p ∧ cnt n p ≤ n := by
  unfold cnt
  have h1 : 0 < p.toNat := by omega
  exact ⟨Nat.mul_pos (Nat.div_pos (by omega) h1) h1, Nat.div_mul_le_self _ _⟩
theorem fst0_eq_zero {l : List Int} (h : fst0 l = 0) : ∀ x ∈ l, x = 0 := by
  induction l with
  | nil => simp
  | cons x l ih =>
    by_cases hx : x = 0
    · subst hx
      intro y hy
      rcases List.mem_cons.1 hy with rfl | hy
      · rfl
      · exact ih h y hy
    · rw [fst0_ne hx] at h
      exact absurd h hx
theorem rec_ok {xs : List Int} (h : recErr xs = 0) : 0 < xs.length ∧ xs.length ≤ 240 ∧ Bnd 1000000 xs := by
  unfold recErr at h
  by_cases h0 : xs.length = 0
  · simp [h0] at h
  by_cases h1 : 240 < xs.length
  · simp [h0, h1] at h
  refine ⟨by omega, by omega, fun x hx => ?_⟩
  cases hq : xs.any (fun n => !inR n (-1000000) 1000000)
  · rw [List.any_eq_false] at hq
    have := hq x hx
    have h3 : inR x (-1000000) 1000000 = true := by simpa using this
    exact inR_true.1 h3
  · rw [hq] at h
    simp [h0, h1] at h
theorem drum_ok {nm : ByteArray} {p o : Int} (h : drumErr nm p o = 0) : Drum p o ∧ nameOk nm = true ∧ p % 4 = 0 := by
  unfold drumErr at h
  cases h1 : nameOk nm
  · simp [h1] at h
  cases h2 : inR p 4 64
  · simp [h1, h2] at h
  by_cases h3 : p % 4 = 0
  · cases h4 : inR o 0 (p - 1)
    · simp [h1, h2, h3, h4] at h
    · have a := inR_true.1 h2
      have b := inR_true.1 h4
      exact ⟨⟨a.1, a.2, b.1, b.2⟩, rfl, h3⟩
  · simp [h1, h2, h3] at h
theorem both_ok {xs : List Int} {nm : ByteArray} {p o : Int} (h : bothErr xs nm p o = 0) : recErr xs = 0 ∧ drumErr nm p o = 0 :=
  ⟨fst0_eq_zero h _ (by simp), fst0_eq_zero h _ (by simp)⟩
theorem turn_ok {xs : List Int} {nm : ByteArray} {p o : Int} (h : turnErr xs nm p o = 0) : bothErr xs nm p o = 0 ∧ p ≤ xs.length := by
  refine ⟨fst0_eq_zero h _ (by simp), ?_⟩
  have := fst0_eq_zero h (unl (decide (p ≤ xs.length)) 10) (by simp)
  cases hd : decide (p ≤ (xs.length : Int))
  · rw [hd] at this; cases this
  · exact of_decide_eq_true hd
theorem Bnd.mono {B C : Int} {l : List Int} (h : Bnd B l) (hBC : B ≤ C) : Bnd C l := fun x hx => by have := h x hx; omega
def near (n b : Int) : Int := if n < 0 then -((2 * -n + b - 1) / (2 * b)) else (2 * n + b - 1) / (2 * b)
theorem near_bnd {n b : Int} (hb : 0 < b) : (near n b).natAbs ≤ n.natAbs := by
  have key : ∀ m : Int, 0 ≤ m → 0 ≤ (2 * m + b - 1) / (2 * b) ∧ (2 * m + b - 1) / (2 * b) ≤ m := fun m hm => by
    constructor
    · exact Int.ediv_nonneg (by omega) (by omega)
    · have h1 : (2 * m + b - 1) / (2 * b) < m + 1 := by
        refine Int.ediv_lt_of_lt_mul (by omega) ?_
        have h2 : m * 1 ≤ m * b := Int.mul_le_mul_of_nonneg_left (by omega) hm
        have h3 : (m + 1) * (2 * b) = 2 * (m * b) + 2 * b := by rw [Int.add_mul, Int.mul_left_comm]; omega
        omega
      omega
  unfold near
  split
  · have := key (-n) (by omega); omega
  · have := key n (by omega); omega
def nearRe (p o : Int) (xs : List Int) (k0 : Int) : Int := near (2 * (rsum p o xs k0 0 - rsum p o xs k0 2)) (cnt xs.length p : Nat)
def nearIm (p o : Int) (xs : List Int) (k0 : Int) : Int := near (2 * (rsum p o xs k0 3 - rsum p o xs k0 1)) (cnt xs.length p : Nat)
def turnOf (xs : List Int) (P t : Nat) : List Int := (xs.drop (t * P)).take P
theorem lt53 {n : Nat} (h : n ≤ 1000000000) : n < 2 ^ 53 := by
  have p53 : (2 : Nat) ^ 53 = 9007199254740992 := by decide
  omega
theorem near_bnd2 {n b M : Int} (hb : 0 < b) (hM : 0 ≤ M) (h1 : -(M * b) ≤ n) (h2 : n ≤ M * b) : (near n b).natAbs ≤ M.natAbs := by
  have key : ∀ m : Int, 0 ≤ m → m ≤ M * b → 0 ≤ (2 * m + b - 1) / (2 * b) ∧ (2 * m + b - 1) / (2 * b) ≤ M := fun m hm hmM => by
    constructor
    · exact Int.ediv_nonneg (by omega) (by omega)
    · have h1 : (2 * m + b - 1) / (2 * b) < M + 1 := by
        refine Int.ediv_lt_of_lt_mul (by omega) ?_
        have h3 : (M + 1) * (2 * b) = 2 * (M * b) + 2 * b := by rw [Int.add_mul, Int.mul_left_comm]; omega
        omega
      omega
  unfold near
  split
  · have := key (-n) (by omega) (by omega); omega
  · have := key n (by omega) (by omega); omega
theorem rsum_bnd2 {p o : Int} {xs : List Int} {k0 q : Int} (hB : Bnd 1000000 xs) : -(1000000 * (cnt xs.length p : Nat) : Int) ≤ rsum p o xs k0 q ∧ rsum p o xs k0 q ≤ 1000000 * (cnt xs.length p : Nat) := by
  have h := sq_bnd (by omega) p o q (xs.take (cnt xs.length p)) k0 (hB.take _)
  have hl : ((xs.take (cnt xs.length p)).length : Int) ≤ (cnt xs.length p : Nat) := by rw [List.length_take]; omega
  unfold rsum
  omega
theorem nearRe_bnd {p o : Int} {xs : List Int} {k0 : Int} (hB : Bnd 1000000 xs) (hc : 0 < cnt xs.length p) : (nearRe p o xs k0).natAbs ≤ 4000000 ∧ (nearIm p o xs k0).natAbs ≤ 4000000 := by
  have h0 := rsum_bnd2 (p := p) (o := o) (k0 := k0) (q := 0) hB
  have h1 := rsum_bnd2 (p := p) (o := o) (k0 := k0) (q := 1) hB
  have h2 := rsum_bnd2 (p := p) (o := o) (k0 := k0) (q := 2) hB
  have h3 := rsum_bnd2 (p := p) (o := o) (k0 := k0) (q := 3) hB
  exact ⟨near_bnd2 (M := 4000000) (by omega) (by omega) (by omega) (by omega), near_bnd2 (M := 4000000) (by omega) (by omega) (by omega) (by omega)⟩
theorem waveQ_bnd {q re im : Int} : (waveQ q re im).natAbs ≤ max re.natAbs im.natAbs := by
  unfold waveQ
  split
  · omega
  · split
    · omega
    · split <;> omega
theorem div_succ {P k : Nat} (hP : 0 < P) (h : (k + 1) % P ≠ 0) : (k + 1) / P = k / P := by
  have h1 := Nat.div_add_mod k P
  have h2 := Nat.mod_lt k hP
  have h3 := Nat.div_add_mod (k + 1) P
  have h4 := Nat.mod_lt (k + 1) hP
  rcases Nat.lt_trichotomy ((k + 1) / P) (k / P) with hl | he | hg
  · have : P * ((k + 1) / P) + P ≤ P * (k / P) := by rw [← Nat.mul_succ]; exact Nat.mul_le_mul_left _ hl
    omega
  · exact he
  · have : P * (k / P) + P ≤ P * ((k + 1) / P) := by rw [← Nat.mul_succ]; exact Nat.mul_le_mul_left _ hg
    omega
def pairErr (xs : List Int) (nm0 : ByteArray) (p0 o0 : Int) (nm1 : ByteArray) (p1 o1 : Int) : Int := fst0 [recErr xs, drumErr nm0 p0 o0, drumErr nm1 p1 o1]
theorem fst0_cons {x : Int} {l : List Int} (h : fst0 (x :: l) = 0) : x = 0 ∧ fst0 l = 0 := by
  unfold fst0 at h
  cases hx : x == 0
  · rw [hx] at h; simp only [cond_false] at h; subst h; simp at hx
  · rw [hx] at h; exact ⟨by simpa using hx, h⟩
theorem pair_ok {xs : List Int} {nm0 nm1 : ByteArray} {p0 o0 p1 o1 : Int} (h : pairErr xs nm0 p0 o0 nm1 p1 o1 = 0) : recErr xs = 0 ∧ drumErr nm0 p0 o0 = 0 ∧ drumErr nm1 p1 o1 = 0 := by
  obtain ⟨h1, h⟩ := fst0_cons h
  obtain ⟨h2, h⟩ := fst0_cons h
  exact ⟨h1, h2, (fst0_cons h).1⟩

end Go.Proofs.Ytgjhikjnlcbmkaa

/- Walks: waves, sums, amplitudes. -/
namespace Go.Proofs.Ytgjhikjnlcbmkaa
open Go.RowKit
set_option maxRecDepth 20000

theorem ampErr_A (re im : Int) : AC Try.prog 31 [gV re im] (I (ampErr re im)) := by
  refine ac_body Try.func31 rfl (by kernel_rfl) fun w0 ok => ?_; show AWp _ (ctx0 w0 ok _) _ (ARet _ _ _) (entry _)
  (repeat' (first | (with_reducible first | intro hg | refine mv (by constructor) ?_) | ((with_reducible first | refine zR ?_ ?_ | refine zW mixed ?_ ?_); exact kr) | ((with_reducible apply zK); exact rfl; exact tf) | ((with_reducible apply zCD); exact rfl) | ((with_reducible apply zCN); exact rfl) | ((with_reducible apply zC); exact rfl) | ((with_reducible refine zX ?_ ?_); exact rfl) | ((with_reducible refine zE (And.intro ?_ ?_)); exact kr) | (with_reducible refine zE ?_) | ((with_reducible apply zP); (first | exact dp | exact oc rfl (isSized_A _ _ ⟨by omega, by omega⟩) | exact oc rfl (unless_A _ _))) | ((with_reducible apply zN); exact dn) | ((with_reducible apply zA); exact da) | ((with_reducible apply zS); exact ds) | ((with_reducible apply zY); exact rfl; exact rfl; exact tf) | ((with_reducible apply zG); exact rfl; exact rfl; exact tf) | ((with_reducible apply zU); exact rfl; exact rfl) | ((with_reducible apply zD); exact rfl; exact rfl) | ((with_reducible apply zB); exact rfl; exact rfl)))
  all_goals ((with_reducible first | apply q_retR | apply q_retN); exact rl)
  all_goals exact rt_int (by unfold ampErr; simp_all [unl])
theorem bampErr_A (re im : Int) : AC Try.prog 13 [gV re im] (I (ampErr re im)) := by
  refine ac_body Try.func13 rfl (by kernel_rfl) fun w0 ok => ?_; show AWp _ (ctx0 w0 ok _) _ (ARet _ _ _) (entry _)
  (repeat' (first | (with_reducible first | intro hg | refine mv (by constructor) ?_) | ((with_reducible first | refine zR ?_ ?_ | refine zW mixed ?_ ?_); exact kr) | ((with_reducible apply zK); exact rfl; exact tf) | ((with_reducible apply zCD); exact rfl) | ((with_reducible apply zCN); exact rfl) | ((with_reducible apply zC); exact rfl) | ((with_reducible refine zX ?_ ?_); exact rfl) | ((with_reducible refine zE (And.intro ?_ ?_)); exact kr) | (with_reducible refine zE ?_) | ((with_reducible apply zP); (first | exact dp | exact oc rfl (bwithin_A _ _ _))) | ((with_reducible apply zN); exact dn) | ((with_reducible apply zA); exact da) | ((with_reducible apply zS); exact ds) | ((with_reducible apply zY); exact rfl; exact rfl; exact tf) | ((with_reducible apply zG); exact rfl; exact rfl; exact tf) | ((with_reducible apply zU); exact rfl; exact rfl) | ((with_reducible apply zD); exact rfl; exact rfl) | ((with_reducible apply zB); exact rfl; exact rfl)))
  all_goals ((with_reducible first | apply q_retR | apply q_retN); exact rl)
  all_goals exact rt_int (by unfold ampErr; simp_all)

theorem rep_ints2 {ok : Nat → Prop} {w : World} {a b : Int} {v : Value} (h : (gV a b).rep ok w v) : v = .agg #[.int .i64 a, .int .i64 b] := by
  rw [DV.rep] at h
  obtain ⟨vs, rfl, _, h⟩ := h
  have := repL_vals_eq (us := [.int .i64 a, .int .i64 b]) h
  rw [this]
theorem rep_drum {ok : Nat → Prop} {w : World} {nm : ByteArray} {a b : Int} {v : Value} (h : (drumV nm a b).rep ok w v) : v = .agg #[.string nm, .int .i64 a, .int .i64 b] := by
  rw [DV.rep] at h
  obtain ⟨vs, rfl, _, h⟩ := h
  have := repL_vals_eq (us := [.string nm, .int .i64 a, .int .i64 b]) h
  rw [this]
theorem numberOf_A (re im : Int) : AC Try.prog 33 [gV re im] (.val (.complex .f64 (floatOfInt .f64 re) (floatOfInt .f64 im))) :=
  AC.of [.agg #[.int .i64 re, .int .i64 im]] _ (fun ok w vs h => by
    obtain ⟨u, us, rfl, h1, h2⟩ := repL_cons.1 h
    rw [repL_nil.1 h2, rep_ints2 h1]) (fun ok w => rep_val.2 rfl) fun w => numberOf_any re im w
theorem wave_A (nm : ByteArray) (p o re im k : Int) (x y : Nat) (hd : Drum p o) (hk0 : 0 ≤ k) (hk1 : k ≤ 1000000) (hx : Rep x re) (hy : Rep y im) (h1 : re.natAbs ≤ 1000000000) (h2 : im.natAbs ≤ 1000000000) :
    AC Try.prog 32 [drumV nm p o, .val (.complex .f64 x y), I k] (I (wave p o re im k)) :=
  AC.of [.agg #[.string nm, .int .i64 p, .int .i64 o], .complex .f64 x y, .int .i64 k] _ (fun ok w vs h => by
    obtain ⟨u, us, rfl, h3, h⟩ := repL_cons.1 h
    obtain ⟨u2, us2, rfl, h4, h⟩ := repL_cons.1 h
    obtain ⟨u3, us3, rfl, h5, h⟩ := repL_cons.1 h
    rw [repL_nil.1 h, rep_drum h3, rep_val.1 h4, rep_val.1 h5]) (fun ok w => rep_val.2 rfl) fun w => wave_any nm p o re im k x y w hd hk0 hk1 hx hy h1 h2
theorem waveN_A (nm : ByteArray) (p o re im k : Int) (hd : Drum p o) (hk0 : 0 ≤ k) (hk1 : k ≤ 1000000) (h1 : re.natAbs ≤ 1000000000) (h2 : im.natAbs ≤ 1000000000) :
    AC Try.prog 32 [drumV nm p o, .val (.complex .f64 (floatOfInt .f64 re) (floatOfInt .f64 im)), I k] (I (wave p o re im k)) :=
  wave_A nm p o re im k _ _ hd hk0 hk1 (rep_ofInt re (lt53 h1)) (rep_ofInt im (lt53 h2)) h1 h2

def fourA (f : Int → Int) : List DV := [I (f 0), I (f 1), I (f 2), I (f 3)]
theorem fourA_get {f : Int → Int} {q : Int} (h0 : 0 ≤ q) (h4 : q < 4) : ((fourA f).drop (0 + q.toNat * 1))[0]? = some (I (f q)) := by
  have hc : q = 0 ∨ q = 1 ∨ q = 2 ∨ q = 3 := by omega
  rcases hc with rfl | rfl | rfl | rfl <;> rfl
theorem fourA_set {f g : Int → Int} {q : Int} (h0 : 0 ≤ q) (h4 : q < 4) (n : Int) (h : ∀ i, g i = if i = q then n else f i) : spl (fourA f) (0 + q.toNat * 1) [I n] = fourA g := by
  have hc : q = 0 ∨ q = 1 ∨ q = 2 ∨ q = 3 := by omega
  unfold fourA
  rw [h 0, h 1, h 2, h 3]
  rcases hc with rfl | rfl | rfl | rfl <;> rfl
theorem nth_bnd {B : Int} {l : List Int} (h : Bnd B l) {k : Nat} (hk : k < l.length) : -B ≤ nth l k ∧ nth l k ≤ B := by
  unfold nth; rw [List.getD_eq_getElem?_getD, List.getElem?_eq_getElem hk]; exact h.get hk

theorem sums_A (nm : ByteArray) (p o : Int) (xs : List Int) (k0 : Int) (hm : xs.length ≤ 1000) (hd : Drum p o) (hk0 : 0 ≤ k0) (hk1 : k0 ≤ 1000) (hB : Bnd 4000000 xs) :
    AC Try.prog 54 [drumV nm p o, isl xs, I k0] (.tuple [.agg (fourA (rsum p o xs k0)), I (cnt xs.length p : Nat)]) := by
  obtain ⟨h1, h2, h3, h4⟩ := id hd
  obtain ⟨P, rfl⟩ := Int.eq_ofNat_of_zero_le (show 0 ≤ p by omega)
  have e1 : xs.length / P * P ≤ xs.length := Nat.div_mul_le_self _ P
  have e2 : (xs.length : Int) / P * P = ((xs.length / P * P : Nat) : Int) := by rw [Int.natCast_mul, Int.natCast_ediv]
  have b1 : 0 ≤ (xs.length : Int) / P := Int.ediv_nonneg (by omega) (by omega)
  have b2 : (xs.length : Int) / P ≤ xs.length := Int.ediv_le_self _ (by omega)
  have hlk : ((xs.length : Int) / P * P).toNat = xs.length / P * P := by omega
  have hcn : cnt xs.length (P : Int) = xs.length / P * P := rfl
  have hlen : (xs.take (xs.length / P * P)).length = xs.length / P * P := by rw [List.length_take]; omega
  refine ac_body Try.func54 rfl (by kernel_rfl) fun w0 ok => ?_; show AWp _ (ctx0 w0 ok _) _ (ARet _ _ _) (entry _)
  (repeat' (first | (with_reducible first | intro hg | refine mv (by constructor) ?_) | ((with_reducible first | refine zR ?_ ?_ | refine zW mixed ?_ ?_); exact kr) | ((with_reducible apply zK); exact rfl; exact tf) | ((with_reducible apply zCD); exact rfl) | ((with_reducible apply zCN); exact rfl) | ((with_reducible apply zC); exact rfl) | ((with_reducible refine zX ?_ ?_); exact rfl) | ((with_reducible refine zE (And.intro ?_ ?_)); exact kr) | (with_reducible refine zE ?_) | ((with_reducible apply zP); exact dp) | ((with_reducible apply zN); exact dn) | ((with_reducible apply zA); exact da) | ((with_reducible apply zS); exact ds) | ((with_reducible apply zY); exact rfl; exact rfl; exact tf) | ((with_reducible apply zG); exact rfl; exact rfl; exact tf) | ((with_reducible apply zU); exact rfl; exact rfl) | ((with_reducible apply zD); exact rfl; exact rfl) | ((with_reducible apply zB); exact rfl; exact rfl)))
  refine awp_loopL (α := Nat) (fun k => [(2, .d (I k0)), (3, .ptr 3 0), (6, .ptr 6 0), (7, .d (I ((xs.length : Int) / P * P))), (22, .d (isl (xs.take (xs.length / P * P)))), (23, .d (I ((xs.take (xs.length / P * P)).length : Nat))), (24, .d (I k))])
    (fun k => [(3, ⟨69, [S nm, I P, I o]⟩), (6, ⟨32, fourA (fun q => sq P o q (xs.take k) k0)⟩)]) (fun k => k ≤ xs.length / P * P) (fun k => xs.length / P * P - k) 0 (Nat.zero_le _) ⟨rfl, rfl, rfl, rfl, rfl, rfl, rfl, trivial⟩ ⟨rfl, rfl, trivial⟩ fun k hk => ?_
  by_cases hlt : k < xs.length / P * P
  · have hkx : k < xs.length := by omega
    obtain ⟨q0, q4⟩ := qtr_lt (p := P) (o := o) (k := k0 + k) h1
    obtain ⟨v1, v2⟩ := nth_bnd hB hkx
    have hnt : nth (xs.take (xs.length / P * P)) k = nth xs k := by
      unfold nth; rw [List.getD_eq_getElem?_getD, List.getD_eq_getElem?_getD, List.getElem?_take, if_pos hlt]
    rw [← hnt] at v1 v2
    have hbd := sq_bnd (by omega) P o (qtr P o (k0 + k)) (xs.take k) k0 (hB.take k)
    have hlk2 : (xs.take k).length = k := by rw [List.length_take]; omega
    have hbd2 : (4000000 : Int) * (xs.take k).length ≤ 4000000000 := by omega
    (repeat' (first | (with_reducible first | intro hg | refine mv (by constructor) ?_) | ((with_reducible first | refine zR ?_ ?_ | refine zW mixed ?_ ?_); exact kr) | ((with_reducible apply zK); exact rfl; exact tf) | ((with_reducible apply zCD); exact rfl) | ((with_reducible apply zCN); exact rfl) | ((with_reducible apply zC); exact rfl) | ((with_reducible refine zX ?_ ?_); exact rfl) | ((with_reducible refine zE (And.intro ?_ ?_)); exact kr) | (with_reducible refine zE ?_) | ((with_reducible apply zP); (first | exact o_load1 rfl rfl (fourA_get (f := fun q => sq P o q (xs.take k) k0) q0 q4) | exact dp | exact oc rfl (quarter_A _ _ _ _ hd (by omega) (by omega)))) | ((with_reducible apply zN); exact dn) | ((with_reducible apply zA); exact da) | ((with_reducible apply zS); (first | exact o_store rfl rfl rfl rfl (by rfl) (by show _ ≤ 4; omega) rfl | exact ds)) | ((with_reducible apply zY); exact rfl; exact rfl; exact tf) | ((with_reducible apply zG); exact rfl; exact rfl; exact tf) | ((with_reducible apply zU); exact rfl; exact rfl) | ((with_reducible apply zD); exact rfl; exact rfl) | ((with_reducible apply zB); exact rfl; exact rfl)))
    refine ⟨k + 1, hlt, by omega, ⟨rfl, rfl, rfl, rfl, rfl, rfl, rfl, trivial⟩, ⟨rfl, ?_, trivial⟩⟩
    refine congrArg (fun l => some (Blk.mk 32 l)) (fourA_set (f := fun q => sq P o q (xs.take k) k0) (g := fun q => sq P o q (xs.take (k + 1)) k0) q0 q4 _ fun i => ?_)
    show sq P o i (xs.take (k + 1)) k0 = _
    rw [take_getD hkx, sq_snoc, hlk2, hnt]
    by_cases hi : i = qtr P o (k0 + k)
    · subst hi; rw [if_pos rfl, if_pos rfl]
    · rw [if_neg (Ne.symm hi), if_neg hi, Int.add_zero]
  · (repeat' (first | (with_reducible first | intro hg | refine mv (by constructor) ?_) | ((with_reducible first | refine zR ?_ ?_ | refine zW mixed ?_ ?_); exact kr) | ((with_reducible apply zK); exact rfl; exact tf) | ((with_reducible apply zCD); exact rfl) | ((with_reducible apply zCN); exact rfl) | ((with_reducible apply zC); exact rfl) | ((with_reducible refine zX ?_ ?_); exact rfl) | ((with_reducible refine zE (And.intro ?_ ?_)); exact kr) | (with_reducible refine zE ?_) | ((with_reducible apply zP); exact dp) | ((with_reducible apply zN); exact dn) | ((with_reducible apply zA); exact da) | ((with_reducible apply zS); exact ds) | ((with_reducible apply zY); exact rfl; exact rfl; exact tf) | ((with_reducible apply zG); exact rfl; exact rfl; exact tf) | ((with_reducible apply zU); exact rfl; exact rfl) | ((with_reducible apply zD); exact rfl; exact rfl) | ((with_reducible apply zB); exact rfl; exact rfl)))
    ((with_reducible first | apply q_retR | apply q_retN); exact rl)
    have : k = xs.length / P * P := by omega
    subst this
    show DV.tuple _ = DV.tuple _
    rw [hcn, ← e2]
    rfl

end Go.Proofs.Ytgjhikjnlcbmkaa

/- Walks: sums of quarters, rounding, errors of records and rolls. -/
namespace Go.Proofs.Ytgjhikjnlcbmkaa
open Go.RowKit
set_option maxRecDepth 20000

abbrev ampV (f g : Int × Int) : DV := .agg [I f.1, I f.2, I g.1, I g.2]

theorem sum_A (f : Int → Int) (h0 : (f 0).natAbs ≤ 1000000000000) (h1 : (f 1).natAbs ≤ 1000000000000) (h2 : (f 2).natAbs ≤ 1000000000000) (h3 : (f 3).natAbs ≤ 1000000000000) :
    AC Try.prog 55 [.agg (fourA f)] (gV (f 0 - f 2) (f 3 - f 1)) := by
  refine ac_body Try.func55 rfl (by kernel_rfl) fun w0 ok => ?_; show AWp _ (ctx0 w0 ok _) _ (ARet _ _ _) (entry _)
  (repeat' (first | (with_reducible first | intro hg | refine mv (by constructor) ?_) | ((with_reducible first | refine zR ?_ ?_ | refine zW mixed ?_ ?_); exact kr) | ((with_reducible apply zK); exact rfl; exact tf) | ((with_reducible apply zCD); exact rfl) | ((with_reducible apply zCN); exact rfl) | ((with_reducible apply zC); exact rfl) | ((with_reducible refine zX ?_ ?_); exact rfl) | ((with_reducible refine zE (And.intro ?_ ?_)); exact kr) | (with_reducible refine zE ?_) | ((with_reducible apply zP); exact dp) | ((with_reducible apply zN); exact dn) | ((with_reducible apply zA); exact da) | ((with_reducible apply zS); exact ds) | ((with_reducible apply zY); exact rfl; exact rfl; exact tf) | ((with_reducible apply zG); exact rfl; exact rfl; exact tf) | ((with_reducible apply zU); exact rfl; exact rfl) | ((with_reducible apply zD); exact rfl; exact rfl) | ((with_reducible apply zB); exact rfl; exact rfl)))
  ((with_reducible first | apply q_retR | apply q_retN); exact rl)
  rfl
theorem over_A (a b n : Int) (h1 : Sm a) (h2 : Sm b) (h3 : 0 < n) (h4 : n ≤ 9223372036854775807) : AC Try.prog 56 [gV a b, I n] (ampV (low a n) (low b n)) := by
  refine ac_body Try.func56 rfl (by kernel_rfl) fun w0 ok => ?_; show AWp _ (ctx0 w0 ok _) _ (ARet _ _ _) (entry _)
  (repeat' (first | (with_reducible first | intro hg | refine mv (by constructor) ?_) | ((with_reducible first | refine zR ?_ ?_ | refine zW mixed ?_ ?_); exact kr) | ((with_reducible apply zK); exact rfl; exact tf) | ((with_reducible apply zCD); exact rfl) | ((with_reducible apply zCN); exact rfl) | ((with_reducible apply zC); exact rfl) | ((with_reducible refine zX ?_ ?_); exact rfl) | ((with_reducible refine zE (And.intro ?_ ?_)); exact kr) | (with_reducible refine zE ?_) | ((with_reducible apply zP); (first | exact dp | exact oc rfl (fraction_A _ _ (by assumption) h3 h4))) | ((with_reducible apply zN); exact dn) | ((with_reducible apply zA); exact da) | ((with_reducible apply zS); exact ds) | ((with_reducible apply zY); exact rfl; exact rfl; exact tf) | ((with_reducible apply zG); exact rfl; exact rfl; exact tf) | ((with_reducible apply zU); exact rfl; exact rfl) | ((with_reducible apply zD); exact rfl; exact rfl) | ((with_reducible apply zB); exact rfl; exact rfl)))
  ((with_reducible first | apply q_retR | apply q_retN); exact rl)
  rfl
theorem open_A (xs : List Int) (nm : ByteArray) (p o : Int) (hm : xs.length ≤ 140737488355328) (hs : nm.size ≤ 140737488355328) (hp : I64 p) : AC Try.prog 57 [isl xs, drumV nm p o] (.tuple [drumV nm p o, I (bothErr xs nm p o)]) := by
  refine ac_body Try.func57 rfl (by kernel_rfl) fun w0 ok => ?_; show AWp _ (ctx0 w0 ok _) _ (ARet _ _ _) (entry _)
  (repeat' (first | (with_reducible first | intro hg | refine mv (by constructor) ?_) | ((with_reducible first | refine zR ?_ ?_ | refine zW mixed ?_ ?_); exact kr) | ((with_reducible apply zK); exact rfl; exact tf) | ((with_reducible apply zCD); exact rfl) | ((with_reducible apply zCN); exact rfl) | ((with_reducible apply zC); exact rfl) | ((with_reducible refine zX ?_ ?_); exact rfl) | ((with_reducible refine zE (And.intro ?_ ?_)); exact kr) | (with_reducible refine zE ?_) | ((with_reducible apply zP); (first | exact dp | exact oc rfl (checkRecord_A _ hm) | exact oc rfl (checkDrum_A _ _ _ hs hp) | exact oc rfl (first2_A _ _))) | ((with_reducible apply zN); exact dn) | ((with_reducible apply zA); exact da) | ((with_reducible apply zS); exact ds) | ((with_reducible apply zY); exact rfl; exact rfl; exact tf) | ((with_reducible apply zG); exact rfl; exact rfl; exact tf) | ((with_reducible apply zU); exact rfl; exact rfl) | ((with_reducible apply zD); exact rfl; exact rfl) | ((with_reducible apply zB); exact rfl; exact rfl)))
  ((with_reducible first | apply q_retR | apply q_retN); exact rl)
  rfl
theorem turning_A (xs : List Int) (nm : ByteArray) (p o : Int) (hm : xs.length ≤ 140737488355328) (hs : nm.size ≤ 140737488355328) (hp : I64 p) : AC Try.prog 53 [isl xs, drumV nm p o] (.tuple [drumV nm p o, I (turnErr xs nm p o)]) := by
  refine ac_body Try.func53 rfl (by kernel_rfl) fun w0 ok => ?_; show AWp _ (ctx0 w0 ok _) _ (ARet _ _ _) (entry _)
  (repeat' (first | (with_reducible first | intro hg | refine mv (by constructor) ?_) | ((with_reducible first | refine zR ?_ ?_ | refine zW mixed ?_ ?_); exact kr) | ((with_reducible apply zK); exact rfl; exact tf) | ((with_reducible apply zCD); exact rfl) | ((with_reducible apply zCN); exact rfl) | ((with_reducible apply zC); exact rfl) | ((with_reducible refine zX ?_ ?_); exact rfl) | ((with_reducible refine zE (And.intro ?_ ?_)); exact kr) | (with_reducible refine zE ?_) | ((with_reducible apply zP); (first | exact dp | exact oc rfl (open_A _ _ _ _ hm hs hp) | exact oc rfl (unless_A _ _) | exact oc rfl (first2_A _ _))) | ((with_reducible apply zN); exact dn) | ((with_reducible apply zA); exact da) | ((with_reducible apply zS); exact ds) | ((with_reducible apply zY); exact rfl; exact rfl; exact tf) | ((with_reducible apply zG); exact rfl; exact rfl; exact tf) | ((with_reducible apply zU); exact rfl; exact rfl) | ((with_reducible apply zD); exact rfl; exact rfl) | ((with_reducible apply zB); exact rfl; exact rfl)))
  ((with_reducible first | apply q_retR | apply q_retN); exact rl)
  rfl
theorem both_A (xs : List Int) (nm : ByteArray) (p o : Int) (hm : xs.length ≤ 140737488355328) (hs : nm.size ≤ 140737488355328) : AC Try.prog 34 [isl xs, drumV nm p o] (I (bothErr xs nm p o)) := by
  refine ac_body Try.func34 rfl (by kernel_rfl) fun w0 ok => ?_; show AWp _ (ctx0 w0 ok _) _ (ARet _ _ _) (entry _)
  (repeat' (first | (with_reducible first | intro hg | refine mv (by constructor) ?_) | ((with_reducible first | refine zR ?_ ?_ | refine zW mixed ?_ ?_); exact kr) | ((with_reducible apply zK); exact rfl; exact tf) | ((with_reducible apply zCD); exact rfl) | ((with_reducible apply zCN); exact rfl) | ((with_reducible apply zC); exact rfl) | ((with_reducible refine zX ?_ ?_); exact rfl) | ((with_reducible refine zE (And.intro ?_ ?_)); exact kr) | (with_reducible refine zE ?_) | ((with_reducible apply zP); (first | exact dp | exact oc rfl (brec_A _ hm) | exact oc rfl (bDrum_A _ _ _ hs))) | ((with_reducible apply zN); exact dn) | ((with_reducible apply zA); exact da) | ((with_reducible apply zS); exact ds) | ((with_reducible apply zY); exact rfl; exact rfl; exact tf) | ((with_reducible apply zG); exact rfl; exact rfl; exact tf) | ((with_reducible apply zU); exact rfl; exact rfl) | ((with_reducible apply zD); exact rfl; exact rfl) | ((with_reducible apply zB); exact rfl; exact rfl)))
  all_goals ((with_reducible first | apply q_retR | apply q_retN); exact rl)
  · exact rt_int (by unfold bothErr; rw [fst0_ne hg])
  · have h0 : recErr xs = 0 := Decidable.not_not.1 hg
    exact rt_int (by unfold bothErr; rw [h0, fst0_zero, fst0_one])
theorem nearest_A (n b : Int) (h1 : n.natAbs ≤ 1000000000000) (h2 : 0 < b) (h3 : b ≤ 1000000) : AC Try.prog 89 [I n, I b] (I (near n b)) := by
  have g1 : -1000000000000 ≤ n ∧ n ≤ 1000000000000 := by omega
  have hq : 0 ≤ (2 * max n (-n) + b - 1) / (2 * b) ∧ (2 * max n (-n) + b - 1) / (2 * b) ≤ 1000000000000 := by
    have hb := near_bnd (n := n) h2
    unfold near at hb
    rcases Int.lt_or_le n 0 with hn | hn
    · rw [if_pos hn] at hb
      rw [show max n (-n) = -n by omega]
      exact ⟨Int.ediv_nonneg (by omega) (by omega), by omega⟩
    · rw [if_neg (by omega)] at hb
      rw [show max n (-n) = n by omega]
      exact ⟨Int.ediv_nonneg (by omega) (by omega), by omega⟩
  refine ac_body Try.func89 rfl (by kernel_rfl) fun w0 ok => ?_; show AWp _ (ctx0 w0 ok _) _ (ARet _ _ _) (entry _)
  (repeat' (first | (with_reducible first | intro hg | refine mv (by constructor) ?_) | ((with_reducible first | refine zR ?_ ?_ | refine zW mixed ?_ ?_); exact kr) | ((with_reducible apply zK); exact rfl; exact tf) | ((with_reducible apply zCD); exact rfl) | ((with_reducible apply zCN); exact rfl) | ((with_reducible apply zC); exact rfl) | ((with_reducible refine zX ?_ ?_); exact rfl) | ((with_reducible refine zE (And.intro ?_ ?_)); exact kr) | (with_reducible refine zE ?_) | ((with_reducible apply zP); exact dp) | ((with_reducible apply zN); exact dn) | ((with_reducible apply zA); exact da) | ((with_reducible apply zS); exact ds) | ((with_reducible apply zY); exact rfl; exact rfl; exact tf) | ((with_reducible apply zG); exact rfl; exact rfl; exact tf) | ((with_reducible apply zU); exact rfl; exact rfl) | ((with_reducible apply zD); exact rfl; exact rfl) | ((with_reducible apply zB); exact rfl; exact rfl)))
  all_goals ((with_reducible first | apply q_retR | apply q_retN); exact rl)
  · exact rt_int (by unfold near; rw [if_pos hg, show max n (-n) = -n by omega])
  · exact rt_int (by unfold near; rw [if_neg hg, show max n (-n) = n by omega])
theorem nearestOf_A (nm : ByteArray) (p o : Int) (xs : List Int) (k0 : Int) (hm : xs.length ≤ 1000) (hd : Drum p o) (hk0 : 0 ≤ k0) (hk1 : k0 ≤ 1000) (hB : Bnd 4000000 xs) (hp : p ≤ xs.length) :
    AC Try.prog 64 [drumV nm p o, isl xs, I k0] (gV (nearRe p o xs k0) (nearIm p o xs k0)) := by
  have b0 := rsum_bnd (p := p) (o := o) (k0 := k0) (q := 0) hB hm
  have b1 := rsum_bnd (p := p) (o := o) (k0 := k0) (q := 1) hB hm
  have b2 := rsum_bnd (p := p) (o := o) (k0 := k0) (q := 2) hB hm
  have b3 := rsum_bnd (p := p) (o := o) (k0 := k0) (q := 3) hB hm
  have hc := cnt_pos hd.1 hp
  refine ac_body Try.func64 rfl (by kernel_rfl) fun w0 ok => ?_; show AWp _ (ctx0 w0 ok _) _ (ARet _ _ _) (entry _)
  (repeat' (first | (with_reducible first | intro hg | refine mv (by constructor) ?_) | ((with_reducible first | refine zR ?_ ?_ | refine zW mixed ?_ ?_); exact kr) | ((with_reducible apply zK); exact rfl; exact tf) | ((with_reducible apply zCD); exact rfl) | ((with_reducible apply zCN); exact rfl) | ((with_reducible apply zC); exact rfl) | ((with_reducible refine zX ?_ ?_); exact rfl) | ((with_reducible refine zE (And.intro ?_ ?_)); exact kr) | (with_reducible refine zE ?_) | ((with_reducible apply zP); (first | exact dp | exact oc rfl (sums_A _ _ _ _ _ hm hd hk0 hk1 hB) | exact oc rfl (sum_A (rsum p o xs k0) (by omega) (by omega) (by omega) (by omega)) | exact oc rfl (nearest_A _ _ (by omega) (by omega) (by omega)))) | ((with_reducible apply zN); exact dn) | ((with_reducible apply zA); exact da) | ((with_reducible apply zS); exact ds) | ((with_reducible apply zY); exact rfl; exact rfl; exact tf) | ((with_reducible apply zG); exact rfl; exact rfl; exact tf) | ((with_reducible apply zU); exact rfl; exact rfl) | ((with_reducible apply zD); exact rfl; exact rfl) | ((with_reducible apply zB); exact rfl; exact rfl)))
  ((with_reducible first | apply q_retR | apply q_retN); exact rl)
  rfl
end Go.Proofs.Ytgjhikjnlcbmkaa

/- Walks: the records that are made, runs. -/
namespace Go.Proofs.Ytgjhikjnlcbmkaa
open Go.RowKit
set_option maxRecDepth 20000

end Go.Proofs.Ytgjhikjnlcbmkaa

/- Walks: copies, comparisons. -/
namespace Go.Proofs.Ytgjhikjnlcbmkaa
open Go.RowKit
set_option maxRecDepth 20000

theorem ivs_ne {xs : List Int} (h : xs ≠ []) : ivs xs ≠ [] := by
  intro h2; apply h; unfold ivs at h2; exact List.map_eq_nil_iff.1 h2
theorem copyInts_A (xs : List Int) (hm : xs.length ≤ 1000000) : AC Try.prog 8 [isl xs] (isl xs) := by
  by_cases hne : xs = []
  · subst hne
    refine ac_body Try.func8 rfl (by kernel_rfl) fun w0 ok => ?_; show AWp _ (ctx0 w0 ok _) _ (ARet _ _ _) (entry _)
    (repeat' (first | (with_reducible first | intro hg | refine mv (by constructor) ?_) | ((with_reducible first | refine zR ?_ ?_ | refine zW mixed ?_ ?_); exact kr) | ((with_reducible apply zK); exact rfl; exact tf) | ((with_reducible apply zCD); exact rfl) | ((with_reducible apply zCN); exact rfl) | ((with_reducible apply zC); exact rfl) | ((with_reducible refine zX ?_ ?_); exact rfl) | ((with_reducible refine zE (And.intro ?_ ?_)); exact kr) | (with_reducible refine zE ?_) | ((with_reducible apply zP); exact dp) | ((with_reducible apply zN); exact dn) | ((with_reducible apply zA); exact da) | ((with_reducible apply zS); exact ds) | ((with_reducible apply zY); exact rfl; exact rfl; exact tf) | ((with_reducible apply zG); exact rfl; exact rfl; exact tf) | ((with_reducible apply zU); exact rfl; exact rfl) | ((with_reducible apply zD); exact rfl; exact rfl) | ((with_reducible apply zB); exact rfl; exact rfl)))
    ((with_reducible first | apply q_retR | apply q_retN); exact rl)
    rfl
  · have hpos : 0 < xs.length := List.length_pos_iff.2 hne
    refine ac_body Try.func8 rfl (by kernel_rfl) fun w0 ok => ?_; show AWp _ (ctx0 w0 ok _) _ (ARet _ _ _) (entry _)
    (repeat' (first | (with_reducible first | intro hg | refine mv (by constructor) ?_) | ((with_reducible first | refine zR ?_ ?_ | refine zW mixed ?_ ?_); exact kr) | ((with_reducible apply zK); exact rfl; exact tf) | ((with_reducible apply zCD); exact rfl) | ((with_reducible apply zCN); exact rfl) | ((with_reducible apply zC); exact rfl) | ((with_reducible refine zX ?_ ?_); exact rfl) | ((with_reducible refine zE (And.intro ?_ ?_)); exact kr) | (with_reducible refine zE ?_) | ((with_reducible apply zP); exact dp) | ((with_reducible apply zN); exact dn) | ((with_reducible apply zA); exact da) | ((with_reducible apply zS); exact ds) | ((with_reducible apply zY); exact rfl; exact rfl; exact tf) | ((with_reducible apply zG); exact rfl; exact rfl; exact tf) | ((with_reducible apply zU); exact rfl; exact rfl) | ((with_reducible apply zD); exact rfl; exact rfl) | ((with_reducible apply zB); exact rfl; exact rfl)))
    ((with_reducible first | apply q_retR | apply q_retN); exact rl)
    show DV.slice xs.length (ivs xs) = DV.slice (0 + xs.length) ((([] ++ ivs xs).drop 0).take ((0 + xs.length) * 1))
    rw [Nat.zero_add, Nat.mul_one, List.nil_append, List.drop_zero, List.take_of_length_le (by simp [ivs])]
theorem clone_A (xs : List Int) (hm : xs.length ≤ 1000000) (hne : xs ≠ []) : ACo Try.prog 63 [isl xs] 3 xs.length 1 (ivs xs) := by
  suffices h : ACo Try.prog 63 [isl xs] 3 (0 + xs.length) 1 (ivs xs) by rwa [Nat.zero_add] at h
  have hne2 := ivs_ne hne
  have hpos : 0 < xs.length := List.length_pos_iff.2 hne
  refine aco_body Try.func63 rfl (by kernel_rfl) fun w0 ok => ?_; show AWp _ (ctx0 w0 ok _) _ (ARetO _ _ _ _ _) (entry _)
  (repeat' (first | (with_reducible first | intro hg | refine mv (by constructor) ?_) | ((with_reducible first | refine zR ?_ ?_ | refine zW mixed ?_ ?_); exact kr) | ((with_reducible apply zK); exact rfl; exact tf) | ((with_reducible apply zCD); exact rfl) | ((with_reducible apply zCN); exact rfl) | ((with_reducible apply zC); exact rfl) | ((with_reducible refine zX ?_ ?_); exact rfl) | ((with_reducible refine zE (And.intro ?_ ?_)); exact kr) | (with_reducible refine zE ?_) | ((with_reducible apply zP); exact dp) | ((with_reducible apply zN); exact dn) | ((with_reducible apply zA); exact da) | ((with_reducible apply zS); exact ds) | ((with_reducible apply zY); exact rfl; exact rfl; exact tf) | ((with_reducible apply zG); exact rfl; exact rfl; exact tf) | ((with_reducible apply zU); exact rfl; exact rfl) | ((with_reducible apply zD); exact rfl; exact rfl) | ((with_reducible apply zB); exact rfl; exact rfl)))
  ((with_reducible first | apply q_retO | apply q_retON); exact rfl; exact rfl; exact rfl)
theorem ints_A (xs ys : List Int) (hm : xs.length ≤ 140737488355328) (hm2 : ys.length ≤ 140737488355328) : AC Try.prog 24 [isl xs, isl ys] (B (decide (xs = ys))) := by
  refine ac_body Try.func24 rfl (by kernel_rfl) fun w0 ok => ?_; show AWp _ (ctx0 w0 ok _) _ (ARet _ _ _) (entry _)
  (repeat' (first | (with_reducible first | intro hg | refine mv (by constructor) ?_) | ((with_reducible first | refine zR ?_ ?_ | refine zW mixed ?_ ?_); exact kr) | ((with_reducible apply zK); exact rfl; exact tf) | ((with_reducible apply zCD); exact rfl) | ((with_reducible apply zCN); exact rfl) | ((with_reducible apply zC); exact rfl) | ((with_reducible refine zX ?_ ?_); exact rfl) | ((with_reducible refine zE (And.intro ?_ ?_)); exact kr) | (with_reducible refine zE ?_) | ((with_reducible apply zP); exact dp) | ((with_reducible apply zN); exact dn) | ((with_reducible apply zA); exact da) | ((with_reducible apply zS); exact ds) | ((with_reducible apply zY); exact rfl; exact rfl; exact tf) | ((with_reducible apply zG); exact rfl; exact rfl; exact tf) | ((with_reducible apply zU); exact rfl; exact rfl) | ((with_reducible apply zD); exact rfl; exact rfl) | ((with_reducible apply zB); exact rfl; exact rfl)))
  · ((with_reducible first | apply q_retR | apply q_retN); exact rl)
    exact rt_bool (decide_eq_false fun h => hg (by rw [h]))
  have hl : xs.length = ys.length := by omega
  refine awp_loopL (α := Nat) (fun k => [(0, .d (isl xs)), (1, .d (isl ys)), (5, .d (I k))]) (fun _ => []) (fun k => k ≤ xs.length ∧ xs.take k = ys.take k) (fun k => xs.length - k) 0 ⟨Nat.zero_le _, rfl⟩ (And.intro rfl (And.intro rfl (And.intro rfl trivial))) trivial fun k ⟨hk, ht⟩ => ?_
  by_cases hlt : k < xs.length
  · have hlt2 : k < ys.length := by omega
    (repeat' (first | (with_reducible first | intro hg | refine mv (by constructor) ?_) | ((with_reducible first | refine zR ?_ ?_ | refine zW mixed ?_ ?_); exact kr) | ((with_reducible apply zK); exact rfl; exact tf) | ((with_reducible apply zCD); exact rfl) | ((with_reducible apply zCN); exact rfl) | ((with_reducible apply zC); exact rfl) | ((with_reducible refine zX ?_ ?_); exact rfl) | ((with_reducible refine zE (And.intro ?_ ?_)); exact kr) | (with_reducible refine zE ?_) | ((with_reducible apply zP); exact dp) | ((with_reducible apply zN); exact dn) | ((with_reducible apply zA); exact da) | ((with_reducible apply zS); exact ds) | ((with_reducible apply zY); exact rfl; exact rfl; exact tf) | ((with_reducible apply zG); exact rfl; exact rfl; exact tf) | ((with_reducible apply zU); exact rfl; exact rfl) | ((with_reducible apply zD); exact rfl; exact rfl) | ((with_reducible apply zB); exact rfl; exact rfl)))
    · ((with_reducible first | apply q_retR | apply q_retN); exact rl)
      refine rt_bool (decide_eq_false fun h => ?_)
      subst h
      exact absurd rfl hg
    · refine ⟨k + 1, ⟨by omega, ?_⟩, by omega, (And.intro rfl (And.intro rfl (And.intro rfl trivial))), trivial⟩
      rw [take_getD hlt, take_getD hlt2, ht, show nth xs k = nth ys k by omega]
  · (repeat' (first | (with_reducible first | intro hg | refine mv (by constructor) ?_) | ((with_reducible first | refine zR ?_ ?_ | refine zW mixed ?_ ?_); exact kr) | ((with_reducible apply zK); exact rfl; exact tf) | ((with_reducible apply zCD); exact rfl) | ((with_reducible apply zCN); exact rfl) | ((with_reducible apply zC); exact rfl) | ((with_reducible refine zX ?_ ?_); exact rfl) | ((with_reducible refine zE (And.intro ?_ ?_)); exact kr) | (with_reducible refine zE ?_) | ((with_reducible apply zP); exact dp) | ((with_reducible apply zN); exact dn) | ((with_reducible apply zA); exact da) | ((with_reducible apply zS); exact ds) | ((with_reducible apply zY); exact rfl; exact rfl; exact tf) | ((with_reducible apply zG); exact rfl; exact rfl; exact tf) | ((with_reducible apply zU); exact rfl; exact rfl) | ((with_reducible apply zD); exact rfl; exact rfl) | ((with_reducible apply zB); exact rfl; exact rfl)))
    ((with_reducible first | apply q_retR | apply q_retN); exact rl)
    refine rt_bool (decide_eq_true ?_)
    rw [List.take_of_length_le (by omega), List.take_of_length_le (by omega)] at ht
    exact ht

end Go.Proofs.Ytgjhikjnlcbmkaa
