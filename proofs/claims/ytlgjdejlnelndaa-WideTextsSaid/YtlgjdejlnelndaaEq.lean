/-
  '==' and '!=' on arrays of integers.
-/
import Derived.Test.YtlgjdejlnelndaaBytesNum
import Derived.Test.YtlgjdejlnelndaaChecked
import Derived.WalkSpells
namespace Go.Proofs.Ytlgjdejlnelndaa
open Go

/-- The part of a row of integers. -/
theorem run_part_int {P : Program} {e : TypeId} {k : IntKind} (he : P.underlying e = some (.int k)) (xs : Array Value) (i : Nat) (v : Value) (hx : xs[i]? = some v) (w : World) : (part e xs i).run P w = .ok v w := by
  have hagg : (isAgg e).run P w = .ok false w := by
    unfold isAgg
    rw [Sem.run_bind, run_underlying he w]; simp
  simp [part, Sem.run_bind, hagg, hx]
theorem run_equalIn_int {P : Program} {e : TypeId} {k : IntKind} (d : Nat) (he : P.underlying e = some (.int k)) (a b : Int) (w : World) : (Op.equalIn (d + 1) e (.int k a) (.int k b)).run P w = .ok (a == b) w := by
  simp [Op.equalIn, run_underlying he]
theorem run_equal_ints {P : Program} {t e : TypeId} {n : Nat} {k : IntKind} (ht : P.underlying t = some (.array n e)) (he : P.underlying e = some (.int k)) (hs : (P.info? e).map (·.size) = some 1)
    (f g : Nat → Int) (xs ys : Array Value) (hx : ∀ i, i < n → xs[i]? = some (.int k (f i))) (hy : ∀ i, i < n → ys[i]? = some (.int k (g i))) (d : Nat) (w : World) :
    (Op.equalIn (d + 2) t (.agg xs) (.agg ys)).run P w = .ok (decide (∀ i, i < n → f i = g i)) w := by
  have hsz : ∀ w, (sizeOf e).run P w = .ok 1 w := by
    intro w
    cases hq : P.info? e with
    | none => simp [hq] at hs
    | some i => simp [hq] at hs; simp [sizeOf, typeInfo, hq, hs]
  rw [Op.equalIn]
  simp only [Sem.run_bind, run_underlying ht, Result.andThen_ok, hsz, Nat.mul_one]
  have key : ∀ (m s : Nat), s + m = n → ∀ w (b : Bool), (b = true ↔ ∀ i, s ≤ i → i < n → f i = g i) → (forIn (m := Sem) (List.range' s m) ((none : Option Bool), ()) (fun i _ => do
      let a ← part e xs i
      let b ← part e ys i
      let r ← Op.equalIn (d + 1) e a b
      if (!r) = true then pure (ForInStep.done (some false, ())) else pure (ForInStep.yield (none, ())))).run P w =
        .ok (if b then (none, ()) else (some false, ())) w := by
    intro m
    induction m with
    | zero =>
      intro s hs w b hb
      rw [if_pos (hb.2 (fun i h1 h2 => by omega))]
      simp
    | succ m ih =>
      intro s hs w b hb
      rw [List.range'_succ, List.forIn_cons]
      simp only [Sem.run_bind, run_part_int he xs s _ (hx s (by omega)), run_part_int he ys s _ (hy s (by omega)), Result.andThen_ok, run_equalIn_int d he]
      by_cases h : f s = g s
      · rw [h]
        simp only [beq_self_eq_true, Bool.not_true, Bool.false_eq_true, if_false, Sem.run_pure, Result.andThen_ok]
        refine ih (s + 1) (by omega) w b (hb.trans ⟨fun q i h1 h2 => q i (by omega) h2, fun q i h1 h2 => ?_⟩)
        by_cases e : i = s
        · rw [e]; exact h
        · exact q i (by omega) h2
      · have hf : (f s == g s) = false := by simpa using h
        have hb' : b = false := by
          cases b with
          | false => rfl
          | true => exact absurd (hb.1 rfl s (by omega) (by omega)) h
        rw [hf, hb']
        simp
  simp only [Std.Legacy.Range.forIn_eq_forIn_range', Std.Legacy.Range.size]
  have h0 := key n 0 (by omega) w (decide (∀ i, i < n → f i = g i)) (by simp)
  simp only [Nat.sub_zero, Nat.add_one_sub_one, Nat.div_one]
  rw [h0]
  by_cases hall : ∀ i, i < n → f i = g i
  · rw [decide_eq_true hall]; simp
  · rw [decide_eq_false hall]; simp

theorem run_eql_ints {P : Program} {t e : TypeId} {n : Nat} {k : IntKind} (ht : P.underlying t = some (.array n e)) (he : P.underlying e = some (.int k)) (hs : (P.info? e).map (·.size) = some 1)
    (f g : Nat → Int) (xs ys : Array Value) (hx : ∀ i, i < n → xs[i]? = some (.int k (f i))) (hy : ∀ i, i < n → ys[i]? = some (.int k (g i))) (w : World) :
    (binOp .eql t (.agg xs) (.agg ys)).run P w = .ok (.bool (decide (∀ i, i < n → f i = g i))) w := by
  simp only [binOp]
  simp [Op.equal, Op.maxDepth, run_equal_ints ht he hs f g xs ys hx hy 9998 w]
theorem run_neq_ints {P : Program} {t e : TypeId} {n : Nat} {k : IntKind} (ht : P.underlying t = some (.array n e)) (he : P.underlying e = some (.int k)) (hs : (P.info? e).map (·.size) = some 1)
    (f g : Nat → Int) (xs ys : Array Value) (hx : ∀ i, i < n → xs[i]? = some (.int k (f i))) (hy : ∀ i, i < n → ys[i]? = some (.int k (g i))) (w : World) :
    (binOp .neq t (.agg xs) (.agg ys)).run P w = .ok (.bool (!decide (∀ i, i < n → f i = g i))) w := by
  simp only [binOp]
  simp [Op.equal, Op.maxDepth, run_equal_ints ht he hs f g xs ys hx hy 9998 w]

/-! ### numbers of 256 bits -/
theorem wd_zero (i : Nat) : wd 0 i = 0 := by unfold wd; simp
theorem wd_inj {A B : Nat} (hA : A < M) (hB : B < M) : (∀ i, i < 4 → wd A i = wd B i) ↔ A = B := by
  refine ⟨fun h => ?_, fun h => by subst h; intros; rfl⟩
  have ea := wd_sum A hA; have eb := wd_sum B hB
  rw [h 0 (by omega), h 1 (by omega), h 2 (by omega), h 3 (by omega)] at ea
  omega
abbrev cU (A : Nat) : Array Value := #[.int .u64 (wd A 0), .int .u64 (wd A 1), .int .u64 (wd A 2), .int .u64 (wd A 3)]
theorem cU_get (A i : Nat) (h : i < 4) : (cU A)[i]? = some (.int .u64 (wd A i)) := by
  rcases (by omega : i = 0 ∨ i = 1 ∨ i = 2 ∨ i = 3) with rfl | rfl | rfl | rfl <;> rfl
theorem z4_get (i : Nat) (h : i < 4) : (#[Value.int .u64 0, .int .u64 0, .int .u64 0, .int .u64 0] : Array Value)[i]? = some (.int .u64 0) := by
  rcases (by omega : i = 0 ∨ i = 1 ∨ i = 2 ∨ i = 3) with rfl | rfl | rfl | rfl <;> rfl
theorem eqlU (A B : Nat) (hA : A < M) (hB : B < M) (w : World) : (binOp .eql 24 (U A) (U B)).run Try.prog w = .ok (.bool (decide (A = B))) w := by
  rw [run_eql_ints (n := 4) (e := 22) Try.underlying24 Try.underlying22 (by kernel_rfl) (wd A) (wd B) _ _ (cU_get A) (cU_get B) w]
  rw [decide_eq_decide.2 (wd_inj hA hB)]
theorem neqU (A B : Nat) (hA : A < M) (hB : B < M) (w : World) : (binOp .neq 24 (U A) (U B)).run Try.prog w = .ok (.bool (!decide (A = B))) w := by
  rw [run_neq_ints (n := 4) (e := 22) Try.underlying24 Try.underlying22 (by kernel_rfl) (wd A) (wd B) _ _ (cU_get A) (cU_get B) w]
  rw [decide_eq_decide.2 (wd_inj hA hB)]
theorem U0_eq : Value.agg #[.int .u64 0, .int .u64 0, .int .u64 0, .int .u64 0] = U 0 := by
  show _ = Value.agg #[.int .u64 (wd 0 0), .int .u64 (wd 0 1), .int .u64 (wd 0 2), .int .u64 (wd 0 3)]
  rw [wd_zero, wd_zero, wd_zero, wd_zero]
theorem M_pos : 0 < M := by rw [M_eq]; decide
theorem eqlU0 (A : Nat) (hA : A < M) (w : World) : (binOp .eql 24 (U A) (.agg #[.int .u64 0, .int .u64 0, .int .u64 0, .int .u64 0])).run Try.prog w = .ok (.bool (decide (A = 0))) w := by
  rw [U0_eq]; exact eqlU A 0 hA M_pos w
theorem neqU0 (A : Nat) (hA : A < M) (w : World) : (binOp .neq 24 (U A) (.agg #[.int .u64 0, .int .u64 0, .int .u64 0, .int .u64 0])).run Try.prog w = .ok (.bool (!decide (A = 0))) w := by
  rw [U0_eq]; exact neqU A 0 hA M_pos w
/-! ### big-endian forms -/
theorem byt_inj {A B : Nat} (hA : A < M) (hB : B < M) : (∀ i, i < 32 → byt A i = byt B i) ↔ A = B := by
  refine ⟨fun h => ?_, fun h => by subst h; intros; rfl⟩
  have key : ∀ k, k ≤ 32 → A / 256 ^ (32 - k) = B / 256 ^ (32 - k) := by
    intro k
    induction k with
    | zero =>
      intro _
      have e : (256 : Nat) ^ 32 = M := by rw [M_eq]
      rw [Nat.sub_zero, e, Nat.div_eq_of_lt hA, Nat.div_eq_of_lt hB]
    | succ k ih =>
      intro hk
      have h1 := ih (by omega)
      have h2 := h k (by omega)
      unfold byt at h2
      have e1 : 32 - k = (31 - k) + 1 := by omega
      rw [e1, Nat.pow_succ, ← Nat.div_div_eq_div_mul, ← Nat.div_div_eq_div_mul] at h1
      rw [show 32 - (k + 1) = 31 - k by omega]
      omega
  have := key 32 (by omega)
  simpa using this
theorem eqlH (A B : Nat) (h1 : A < M) (h2 : B < M) (w : World) : (binOp .eql 26 (.agg (hB A)) (.agg (hB B))).run Try.prog w = .ok (.bool (decide (A = B))) w := by
  rw [run_eql_ints (n := 32) (e := 5) Try.underlying26 Try.underlying5 (by kernel_rfl) (byt A) (byt B) _ _ (hB_get A) (hB_get B) w]
  rw [decide_eq_decide.2 (byt_inj h1 h2)]
end Go.Proofs.Ytlgjdejlnelndaa
