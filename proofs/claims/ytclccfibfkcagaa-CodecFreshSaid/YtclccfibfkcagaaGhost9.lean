/-
  Rows of bytes by their lists; strings by their lists.
-/
import Derived.Test.YtclccfibfkcagaaGhost8
import Derived.Test.YtclccfibfkcagaaBytesNum
namespace Go.Proofs.Ytclccfibfkcagaa
open Go Go.RowKit

def oa (ρ : Nat → Orc) (i : Nat) : Option Addr := (ρ i).a
def ob (x : Int) : UInt8 := UInt8.ofNat x.toNat
theorem ob_nat {x : Int} (h : 0 ≤ x ∧ x < 256) : ((ob x).toNat : Int) = x := by
  unfold ob
  rw [UInt8.toNat_ofNat']
  omega
theorem bv_ob {x : Int} (h : 0 ≤ x ∧ x < 256) : bv (ob x) = .int .u8 x := by
  unfold bv
  rw [ob_nat h]
theorem hd1 {x : Int} (h : 0 ≤ x ∧ x < 256) : Hd #[.int .u8 x] [ob x] := by
  simp [Hd, bs, bv_ob h]
theorem hd2 {x y : Int} (h : 0 ≤ x ∧ x < 256) (h' : 0 ≤ y ∧ y < 256) : Hd #[.int .u8 x, .int .u8 y] [ob x, ob y] := by
  simp [Hd, bs, bv_ob h, bv_ob h']
theorem hdz (n : Nat) : Hd (zB n) (List.replicate n 0) := Hd.all _
theorem Hd.take {C : Array Value} {xs : List UInt8} (h : Hd C xs) (k : Nat) : Hd C (xs.take k) := by
  unfold Hd at h ⊢
  unfold bs at h ⊢
  rw [List.map_take, ← h, List.take_take, List.length_take]
theorem Hd.mid0 {C : Array Value} {xs : List UInt8} (h : Hd C xs) (k : Nat) : Hd C (mid xs 0 k) := by
  unfold mid
  rw [List.drop_zero]
  exact h.take k

theorem fs_eq {w0 w : World} {a : Option Addr} {c : Nat} {xs ys : List UInt8} (e : xs = ys) (h : Fs w0 w a c xs) : Fs w0 w a c ys := e ▸ h
theorem len_app {xs ys : List UInt8} {n : Nat} (h : xs.length + ys.length ≤ n) : (xs ++ ys).length ≤ n := by rw [List.length_append]; exact h
theorem room_le {C : Array Value} {c n : Nat} {ys : List UInt8} (hc : C.size = c) (h : n + ys.length ≤ c) : n + (bs ys).length ≤ C.size := by rw [bs_length, hc]; exact h
theorem grow_sizeL {C : Array Value} {xs ys : List UInt8} {k : Nat} (h : Hd C xs) : (grow C xs.length (bs ys) k).size = (xs ++ ys).length + k := by
  rw [grow_size h.size, List.length_append]
theorem sadr_zero (a : Option Addr) (c : Nat) : sadr a 0 c = a := by
  unfold sadr adr
  split
  · rfl
  · cases a <;> simp [Addr.add]
section
variable {P : Program} {t e : TypeId}
theorem app_roomL {w : World} {ty tx : TypeId} (ht : P.underlying t = some (.slice e)) (hi : u8like P e) {g c : Nat} {C : Array Value} {x : Value} {xs ys : List UInt8} (hg : w.heap[g]? = some (.cells C e (0, 0)))
    (hs : Src P 1 tx x ys.length (bs ys) w) (hc : C.size = c) (hr : xs.length + ys.length ≤ c) :
    ∃ w', (do pure (Next.value (← Builtin.append_ #[t, tx] ty #[.slice (some ⟨g, 0, none⟩) xs.length c, x])) : Sem Next).run P w = .ok (.value (.slice (some ⟨g, 0, none⟩) (xs ++ ys).length c)) w' ∧ Wrote w w' g (.cells (inpl C xs.length (bs ys)) e (0, 0)) := by
  rw [List.length_append]
  exact app_room ht hi hg hs hr (by omega)
theorem app_growL {w : World} {ty tx : TypeId} (ht : P.underlying t = some (.slice e)) (hi : u8like P e) {g c : Nat} {C : Array Value} {x : Value} {xs ys : List UInt8} (hg : w.heap[g]? = some (.cells C e (0, 0)))
    (hs : Src P 1 tx x ys.length (bs ys) w) (hc : C.size = c) (hx : xs.length ≤ c) (hr : c < xs.length + ys.length) (hm : xs.length + ys.length ≤ 140737488351232) :
    ∃ k w', (do pure (Next.value (← Builtin.append_ #[t, tx] ty #[.slice (some ⟨g, 0, none⟩) xs.length c, x])) : Sem Next).run P w = .ok (.value (.slice (some ⟨w.heap.size, 0, none⟩) (xs ++ ys).length ((xs ++ ys).length + k))) w' ∧ Grew w w' (.cells (grow C xs.length (bs ys) k) e (0, 0)) := by
  rw [List.length_append]
  exact app_grow ht hi (first_row (w := w.drew) hg (by omega)) hs hr hm
theorem app_nilL {w : World} {ty tx : TypeId} (ht : P.underlying t = some (.slice e)) (hi : u8like P e) {x : Value} {ys : List UInt8}
    (hs : Src P 1 tx x ys.length (bs ys) w) (hr : 0 < ys.length) (hm : ys.length ≤ 140737488351232) :
    ∃ k w', (do pure (Next.value (← Builtin.append_ #[t, tx] ty #[.slice none 0 0, x])) : Sem Next).run P w = .ok (.value (.slice (some ⟨w.heap.size, 0, none⟩) ys.length (ys.length + k))) w' ∧ Grew w w' (.cells ((bs ys).toArray ++ zB k) e (0, 0)) := by
  have := app_grow (w := w) (ty := ty) ht hi (a := none) (n := 0) (c := 0) (olds := []) first_nil hs (by omega) (by omega)
  simpa using this
theorem Hd.fresh (ys : List UInt8) (k : Nat) : Hd ((bs ys).toArray ++ zB k) ys := by
  unfold Hd
  rw [Array.toList_append, ← bs_length]
  simp
theorem fresh_size (ys : List UInt8) (k : Nat) : ((bs ys).toArray ++ zB k).size = ys.length + k := by simp [bs, zB]
theorem make_rowL (ht : P.underlying t = some (.slice e)) (hi : u8like P e) {kl kc : IntKind} {n c : Int} {c' : Nat} (xs : List UInt8) (hx : n = (xs.length : Int)) (hc' : c = (c' : Int)) (hn : xs.length ≤ c') (hc : c' ≤ 140737488351232) (w : World) :
    ∃ k w', (do pure (Next.value (← Instr.makeSlice t (.int kl n) (.int kc c))) : Sem Next).run P w = .ok (.value (.slice (some ⟨([w.heap.size, k] : List Nat).headD 0, 0, none⟩) xs.length c')) w' ∧ Grew w w' (.cells (zB c') e (0, 0)) := by
  subst hx hc'
  exact make_row ht hi hn hc w
theorem idx_row (ht : P.underlying t = some (.slice e)) (hi : u8like P e) {g m c : Nat} {k : IntKind} {z : Int} {j : Nat} (hz : z = (j : Int)) (hj : j < m) (w : World) :
    (do pure (Next.value (← Instr.indexAt t (.slice (some ⟨g, 0, none⟩) m c) (.int k z))) : Sem Next).run P w = .ok (.value (.pointer (some ⟨g, j, none⟩))) w := by
  subst hz
  have := run_idx_slice (P := P) (t := t) (elem := e) (len := m) (cap := c) (s := 1) (g := g) (off := 0) (k := k) (n := j) ht (sizeOf_u8 hi) (by omega) (by omega) w
  simpa using this
theorem idx_str (hu : P.underlying t = some .string) {k : IntKind} {S : List UInt8} {z : Int} {j : Nat} (hz : z = (j : Int)) (hj : j < S.length) (w : World) :
    (do pure (Next.value (← Instr.index t (.string (strB S)) (.int k z))) : Sem Next).run P w = .ok (.value (.int .u8 (gB S j : Int))) w := by
  subst hz
  have hlt : j < (strB S).size := hj
  have hs : (strB S)[j]? = some (S.getD j 0) := by
    rw [getElem?_pos (strB S) j hlt]
    congr 1
    rw [List.getD, List.getElem?_eq_getElem hj]
    rfl
  simp [Instr.index, asIntOf, Sem.run_bind, run_underlying hu, hs, gB]
theorem eql_str (X Y : List UInt8) (w : World) : (binOp .eql t (.string (strB X)) (.string (strB Y))).run P w = .ok (.bool (decide (X = Y))) w := by
  have e : ((strB X).toList == (strB Y).toList) = decide (X = Y) := by
    rw [Bool.eq_iff_iff, beq_iff_eq, decide_eq_true_eq, ByteArray.toList_eq, ByteArray.toList_eq]
    simp [strB]
  simp only [binOp, Op.stringOp, e]
  rfl
theorem neq_str (X Y : List UInt8) (w : World) : (binOp .neq t (.string (strB X)) (.string (strB Y))).run P w = .ok (.bool (!decide (X = Y))) w := by
  have e : ((strB X).toList == (strB Y).toList) = decide (X = Y) := by
    rw [Bool.eq_iff_iff, beq_iff_eq, decide_eq_true_eq, ByteArray.toList_eq, ByteArray.toList_eq]
    simp [strB]
  simp only [binOp, Op.stringOp, e]
  rfl
theorem eql_str_same (X : List UInt8) (w : World) : (binOp .eql t (.string (strB X)) (.string (strB X))).run P w = .ok (.bool true) w := by
  rw [eql_str]; simp
theorem neq_str_same (X : List UInt8) (w : World) : (binOp .neq t (.string (strB X)) (.string (strB X))).run P w = .ok (.bool false) w := by
  rw [neq_str]; simp
end
theorem strB_self (s : ByteArray) : strB s.data.toList = s := by
  simp [strB]

/-! ### the bytes of a digest -/
def hL (A : Nat) : List UInt8 := (List.range 32).map fun i => ob (byt A i)
theorem hL_length (A : Nat) : (hL A).length = 32 := by simp [hL]
theorem hd_hB (A : Nat) : Hd (hB A) (hL A) := by
  unfold Hd hL hB bs
  rw [List.length_map, List.length_range, List.map_map]
  have e : (List.range 32).map (bv ∘ fun i => ob (byt A i)) = (List.range 32).map fun i => Value.int .u8 (byt A i) := by
    apply List.map_congr_left
    intro i _
    exact bv_ob ⟨byt_nonneg A i, byt_lt A i⟩
  rw [e]
  rfl
/-- The number of bytes, the highest first. -/
def nB (xs : List UInt8) : Nat := xs.foldl (fun a x => a * 256 + x.toNat) 0
theorem nB_snoc (xs : List UInt8) (x : UInt8) : nB (xs ++ [x]) = nB xs * 256 + x.toNat := by simp [nB, List.foldl_append]
theorem snoc_ind {p : List UInt8 → Prop} (h0 : p []) (h1 : ∀ xs x, p xs → p (xs ++ [x])) : ∀ xs, p xs := by
  have key : ∀ n xs, xs.length = n → p xs := by
    intro n
    induction n with
    | zero => intro xs hx; rw [List.eq_nil_of_length_eq_zero hx]; exact h0
    | succ n ih =>
      intro xs hx
      have hne : xs ≠ [] := by intro h; rw [h] at hx; simp at hx
      rw [← List.dropLast_concat_getLast hne]
      exact h1 _ _ (ih _ (by rw [List.length_dropLast]; omega))
  exact fun xs => key _ xs rfl
theorem nB_lt (xs : List UInt8) : nB xs < 256 ^ xs.length := by
  refine snoc_ind (p := fun xs => nB xs < 256 ^ xs.length) (by simp [nB]) ?_ xs
  intro xs x ih
  rw [nB_snoc, List.length_append, List.length_singleton, Nat.pow_succ]
  have := x.toNat_lt
  omega
theorem nB_byte (xs : List UInt8) : ∀ i, i < xs.length → nB xs / 256 ^ (xs.length - 1 - i) % 256 = gB xs i := by
  refine snoc_ind (p := fun xs => ∀ i, i < xs.length → nB xs / 256 ^ (xs.length - 1 - i) % 256 = gB xs i) (fun i h => absurd h (by simp)) ?_ xs
  intro xs x ih i hi
  rw [List.length_append, List.length_singleton] at hi ⊢
  rw [nB_snoc]
  have hx := x.toNat_lt
  by_cases h : i < xs.length
  · have e : xs.length + 1 - 1 - i = (xs.length - 1 - i) + 1 := by omega
    rw [e, Nat.pow_succ, Nat.mul_comm (256 ^ _) 256, ← Nat.div_div_eq_div_mul, show (nB xs * 256 + x.toNat) / 256 = nB xs by omega, ih i h]
    simp [gB, List.getD, List.getElem?_append_left h]
  · have e : i = xs.length := by omega
    subst e
    rw [show xs.length + 1 - 1 - xs.length = 0 by omega, Nat.pow_zero, Nat.div_one]
    simp [gB, List.getD]
/-- 32 bytes are those of their number. -/
theorem hB_nB {xs : List UInt8} (h : xs.length = 32) : (bs xs).toArray = hB (nB xs) := by
  apply hB_ext
  · simp [bs, h]
  · intro j hj
    have hb := nB_byte xs j (by omega)
    rw [h] at hb
    have hj' : j < xs.length := by omega
    unfold byt
    rw [show 31 - j = 32 - 1 - j by omega, hb]
    simp [bs, bv, gB, List.getD, List.getElem?_eq_getElem hj']
theorem nB_M {xs : List UInt8} (h : xs.length = 32) : nB xs < M := by
  have := nB_lt xs
  rw [h] at this
  exact this
theorem hL_nB {xs : List UInt8} (h : xs.length = 32) : hL (nB xs) = xs := by
  have h1 := hd_hB (nB xs)
  rw [← hB_nB h] at h1
  unfold Hd at h1
  rw [hL_length] at h1
  have h2 : bs xs = bs (hL (nB xs)) := by
    rw [← h1]
    rw [List.take_of_length_le (by simp [bs, h])]
  have inj : ∀ a b : UInt8, bv a = bv b → a = b := by
    intro a b hab
    unfold bv at hab
    simp at hab
    exact UInt8.toNat.inj (by omega)
  unfold bs at h2
  exact ((List.map_inj_right (fun a b => inj a b)).1 h2).symm
theorem copy_hash {xs : List UInt8} (h : 32 ≤ xs.length) : inpl (hB 0) 0 (bs (xs.take 32)) = hB (nB (xs.take 32)) := by
  have hl : (xs.take 32).length = 32 := by rw [List.length_take]; omega
  rw [← hB_nB hl]
  unfold inpl
  have : (0 + (bs (xs.take 32)).length) = 32 := by rw [bs_length, hl]
  rw [this]
  simp
  rw [hB_size]; exact Nat.le_refl _
end Go.Proofs.Ytclccfibfkcagaa
