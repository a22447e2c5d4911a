/-
  Keys, signatures, tweaks, in plain words.
-/
import Derived.Test.YtoibhbmcplhiaaaDoorShaNum
import Derived.Test.YtoibhbmcplhiaaaDoorGroupNum
import Derived.Test.YtoibhbmcplhiaaaDoorPrime2
namespace Go.Proofs.YtoibhbmcplhiaaaDoor
open Go

def tgN : List UInt8 := [108, 105, 103, 104, 116, 99, 108, 105, 101, 110, 116, 47, 110, 111, 110, 99, 101]
def tgC : List UInt8 := [108, 105, 103, 104, 116, 99, 108, 105, 101, 110, 116, 47, 99, 104, 97, 108, 108, 101, 110, 103, 101]
def scB (a : Nat) : Bool := decide (a < qP)
def secB (x : Nat) : Bool := decide (x ≠ 0 ∧ x < qP)
def pubV (x : Nat) : Nat := if secB x = true then expmN 4 x pP else 0
def pubE (x : Nat) : Int := if secB x = true then 0 else 60
def valB (p : Nat) : Bool := decide (p ≠ 1) && memB p
def nonN (x m : Nat) : Nat := if addmN (tagN tgN (hL x ++ hL m)) 0 qP = 0 then 1 else addmN (tagN tgN (hL x ++ hL m)) 0 qP
def chaN (r p m : Nat) : Nat := addmN (tagN tgC ((hL r ++ hL p) ++ hL m)) 0 qP
def sigE (x m : Nat) : Nat := if secB x = true then chaN (expmN 4 (nonN x m) pP) (expmN 4 x pP) m else 0
def sigS (x m : Nat) : Nat := if secB x = true then addmN (nonN x m) (mulmN (chaN (expmN 4 (nonN x m) pP) (expmN 4 x pP) m) x qP) qP else 0
def recN (p E S : Nat) : Nat := mulmN (expmN 4 S pP) (expmN p (qP - E) pP) pP
def verB (p m E S : Nat) : Bool := scB E && (scB S && (valB p && decide (E = chaN (recN p E S) p m)))
def twO (p t : Nat) : Nat := mulmN p (expmN 4 (addmN t 0 qP) pP) pP
def twV (p t : Nat) : Nat := if valB p = true then (if twO p t = 1 then 0 else twO p t) else 0
def twE (p t : Nat) : Int := if valB p = true then (if twO p t = 1 then 5 else 0) else 60
def tsO (x t : Nat) : Nat := addmN x (addmN t 0 qP) qP
def tsV (x t : Nat) : Nat := if secB x = true then (if tsO x t = 0 then 0 else tsO x t) else 0
def tsE (x t : Nat) : Int := if secB x = true then (if tsO x t = 0 then 5 else 0) else 60
theorem addm_q (a b : Nat) : addmN a b qP = (a + b) % qP := by unfold addmN; rw [if_neg (by have := qP_pos; omega)]
theorem mulm_q (a b : Nat) : mulmN a b qP = a * b % qP := by unfold mulmN; rw [if_neg (by have := qP_pos; omega)]
theorem addq_lt (a b : Nat) : addmN a b qP < qP := by rw [addm_q]; exact Nat.mod_lt _ (by have := qP_pos; omega)
theorem zeroM : 0 < M := by rw [M_eq]; decide
theorem ifM {c : Prop} [Decidable c] {a b : Nat} (ha : a < M) (hb : b < M) : (if c then a else b) < M := by split <;> assumption
theorem oneM : 1 < M := by rw [M_eq]; decide
theorem pubV_lt (x : Nat) : pubV x < M := ifM (expmN_lt _ _ pP_lt) zeroM
theorem nonN_lt (x m : Nat) : nonN x m < M := ifM oneM (addmN_lt _ _ qP_lt)
theorem chaN_lt (r p m : Nat) : chaN r p m < M := addmN_lt _ _ qP_lt
theorem sigE_lt (x m : Nat) : sigE x m < M := ifM (chaN_lt _ _ _) zeroM
theorem sigS_lt (x m : Nat) : sigS x m < M := ifM (addmN_lt _ _ qP_lt) zeroM
theorem twV_lt (p t : Nat) : twV p t < M := ifM (ifM zeroM (mulmN_lt _ _ pP_lt)) zeroM
theorem tsV_lt (x t : Nat) : tsV x t < M := ifM (ifM zeroM (addmN_lt _ _ qP_lt)) zeroM
/-! ### the walks' last equations -/
theorem sc_dec (a : Nat) : decide (cmpN a qP < 0) = scB a := by
  unfold scB cmpN
  by_cases h : a < qP
  · rw [if_pos h, decide_eq_true h]; rfl
  · rw [if_neg h, decide_eq_false h]; split <;> rfl
theorem sec_0 {x : Nat} (h : decide (x = 0) = true) : false = secB x := by
  unfold secB; rw [decide_eq_false]; exact fun hh => hh.1 (of_decide_eq_true h)
theorem sec_1 {x : Nat} (h : decide (x = 0) = false) : scB x = secB x := by
  unfold secB scB
  rw [decide_eq_decide]
  exact ⟨fun hx => ⟨of_decide_eq_false h, hx⟩, fun hx => hx.2⟩
theorem pub_no {x : Nat} (h : secB x = false) : pubV x = 0 ∧ pubE x = 60 := by unfold pubV pubE; rw [h]; exact ⟨rfl, rfl⟩
theorem pub_yes {x : Nat} (h : secB x = true) : pubV x = expmN 4 x pP ∧ pubE x = 0 := by unfold pubV pubE; rw [if_pos h, if_pos h]; exact ⟨rfl, rfl⟩
theorem pubE_ok {x : Nat} (h : (pubE x != 0) = false) : secB x = true := by
  cases e : secB x
  · rw [(pub_no e).2] at h; exact absurd h (by decide)
  · rfl
theorem pubE_no {x : Nat} (h : (pubE x != 0) = true) : secB x = false := by
  cases e : secB x
  · rfl
  · rw [(pub_yes e).2] at h; exact absurd h (by decide)
theorem val_0 {p : Nat} (h : decide (p = 1) = true) : false = valB p := by unfold valB; rw [of_decide_eq_true h]; rfl
theorem val_1 {p : Nat} (h : decide (p = 1) = false) : memB p = valB p := by
  unfold valB; rw [decide_eq_true (of_decide_eq_false h), Bool.true_and]
theorem non_0 {x m : Nat} (h : decide (addmN (tagN tgN (hL x ++ hL m)) 0 qP = 0) = true) : 1 = nonN x m := by unfold nonN; rw [if_pos (of_decide_eq_true h)]
theorem non_1 {x m : Nat} (h : decide (addmN (tagN tgN (hL x ++ hL m)) 0 qP = 0) = false) : addmN (tagN tgN (hL x ++ hL m)) 0 qP = nonN x m := by unfold nonN; rw [if_neg (of_decide_eq_false h)]
theorem sig_no {x m : Nat} (h : secB x = false) : sigE x m = 0 ∧ sigS x m = 0 := by unfold sigE sigS; rw [h]; exact ⟨rfl, rfl⟩
theorem sig_yes {x m : Nat} (h : secB x = true) : sigE x m = chaN (expmN 4 (nonN x m) pP) (pubV x) m ∧ sigS x m = addmN (nonN x m) (mulmN (chaN (expmN 4 (nonN x m) pP) (pubV x) m) x qP) qP := by
  unfold sigE sigS
  rw [if_pos h, if_pos h, (pub_yes h).1]; exact ⟨rfl, rfl⟩
theorem q_sub {E : Nat} (h : scB E = true) : (qP + M - E) % M = qP - E := by
  have h1 : E < qP := of_decide_eq_true h
  have h2 := qP_lt
  rw [show qP + M - E = (qP - E) + M by omega, Nat.add_mod_right, Nat.mod_eq_of_lt (by omega)]
theorem tw_a {p t : Nat} (h : valB p = false) : twV p t = 0 ∧ twE p t = 60 := by unfold twV twE; rw [h]; exact ⟨rfl, rfl⟩
theorem tw_b {p t : Nat} (h : valB p = true) (h1 : twO p t = 1) : twV p t = 0 ∧ twE p t = 5 := by unfold twV twE; rw [if_pos h, if_pos h, if_pos h1, if_pos h1]; exact ⟨rfl, rfl⟩
theorem tw_c {p t : Nat} (h : valB p = true) (h1 : twO p t ≠ 1) : twV p t = twO p t ∧ twE p t = 0 := by unfold twV twE; rw [if_pos h, if_pos h, if_neg h1, if_neg h1]; exact ⟨rfl, rfl⟩
theorem ts_a {x t : Nat} (h : secB x = false) : tsV x t = 0 ∧ tsE x t = 60 := by unfold tsV tsE; rw [h]; exact ⟨rfl, rfl⟩
theorem ts_b {x t : Nat} (h : secB x = true) (h1 : tsO x t = 0) : tsV x t = 0 ∧ tsE x t = 5 := by unfold tsV tsE; rw [if_pos h, if_pos h, if_pos h1, if_pos h1]; exact ⟨rfl, rfl⟩
theorem ts_c {x t : Nat} (h : secB x = true) (h1 : tsO x t ≠ 0) : tsV x t = tsO x t ∧ tsE x t = 0 := by unfold tsV tsE; rw [if_pos h, if_pos h, if_neg h1, if_neg h1]; exact ⟨rfl, rfl⟩
theorem cha_eq (r p m : Nat) : addmN (tagN tgC ((hL r ++ hL p) ++ hL m)) 0 qP = chaN r p m := by rw [chaN]
theorem ver_1 {p m E S : Nat} (h : scB E = false) : false = verB p m E S := by unfold verB; rw [h]; rfl
theorem ver_2 {p m E S : Nat} (h1 : scB E = true) (h : scB S = false) : false = verB p m E S := by unfold verB; rw [h1, h]; rfl
theorem ver_3 {p m E S : Nat} (h1 : scB E = true) (h2 : scB S = true) (h : valB p = false) : false = verB p m E S := by unfold verB; rw [h1, h2, h]; rfl
theorem ver_4 {p m E S : Nat} (h1 : scB E = true) (h2 : scB S = true) (h : valB p = true) : decide (E = chaN (mulmN (expmN 4 S pP) (expmN p ((qP + M - E) % M) pP) pP) p m) = verB p m E S := by
  unfold verB recN; rw [h1, h2, h, q_sub h1]; rfl
/-! ### the laws -/
theorem qP_prime : IsPrime qP := prime_q
/-- 4 has the order q, and no lesser one. -/
theorem pow_not_one {x : Nat} (h0 : x ≠ 0) (h : x < qP) : 4 ^ x % pP ≠ 1 := by
  intro h1
  have hg := pow_gcd (d := pP) (e := 4) pP_pos x qP h1 four_q
  have hc : Nat.gcd x qP = 1 := by
    have := qP_prime.coprime (a := x) (fun hd => absurd (Nat.le_of_dvd (by omega) hd) (by omega))
    rw [Nat.gcd_comm]; exact this
  rw [hc] at hg
  exact absurd hg (by unfold pP; decide)
theorem pow_inj {x y : Nat} (hx : x < qP) (hy : y < qP) (h : 4 ^ x % pP = 4 ^ y % pP) : x = y := by
  have key : ∀ a b : Nat, a ≤ b → b < qP → 4 ^ a % pP = 4 ^ b % pP → a = b := by
    intro a b hab hb he
    by_cases e : b - a = 0
    · omega
    · exfalso
      have h1 : 4 ^ b % pP = 4 ^ (b - a) % pP * (4 ^ a % pP) % pP := by rw [← Nat.mul_mod, ← Nat.pow_add, show b - a + a = b by omega]
      have h2 : 4 ^ (qP - a) % pP * (4 ^ a % pP) % pP = 1 := by rw [← Nat.mul_mod, ← Nat.pow_add, show qP - a + a = qP by omega]; exact four_q
      have h3 : 4 ^ (qP - a) % pP * (4 ^ b % pP) % pP = 1 := by rw [← he]; exact h2
      have h4 : 4 ^ (qP - a) * 4 ^ b % pP = 1 := by rw [Nat.mul_mod]; exact h3
      rw [← Nat.pow_add, show qP - a + b = qP + (b - a) by omega, Nat.pow_add, Nat.mul_mod, four_q, Nat.one_mul, Nat.mod_mod] at h4
      exact pow_not_one e (by omega) h4
  rcases Nat.le_total x y with hl | hl
  · exact key x y hl hy h
  · exact (key y x hl hx h.symm).symm
theorem sec_lt {x : Nat} (h : secB x = true) : x ≠ 0 ∧ x < qP := of_decide_eq_true h
theorem val_pub {x : Nat} (h : secB x = true) : valB (expmN 4 x pP) = true := by
  have hx := sec_lt h
  unfold valB
  rw [law_mem, Bool.and_true, expm_p]
  exact decide_eq_true (pow_not_one hx.1 hx.2)
theorem cha_q (r p m : Nat) : chaN r p m < qP := addq_lt _ _
theorem sc_cha (r p m : Nat) : scB (chaN r p m) = true := decide_eq_true (addq_lt _ _)
/-- What a signature says the commitment was. -/
theorem rec_pow (x E S : Nat) : recN (expmN 4 x pP) E S = 4 ^ (S + x * (qP - E)) % pP := by
  unfold recN
  rw [mulm_p, expm_p, expm_p, expm_p, ← Nat.pow_mod, ← Nat.pow_mul, ← Nat.mul_mod, ← Nat.pow_add]
theorem rec_sig {x k e : Nat} (he : e < qP) : recN (expmN 4 x pP) e (addmN k (mulmN e x qP) qP) = expmN 4 k pP := by
  rw [rec_pow, expm_p, ← pow_red (_ + _), ← pow_red k, addm_q, mulm_q]
  congr 2
  have h : e * x + x * (qP - e) = x * qP := by
    rw [Nat.mul_comm e x, ← Nat.mul_add, show e + (qP - e) = qP by omega]
  have : ((k + e * x % qP) % qP + x * (qP - e)) % qP = (k + (e * x + x * (qP - e))) % qP := by
    rw [Nat.add_mod, Nat.mod_mod, ← Nat.add_mod, Nat.add_assoc, Nat.add_mod k, Nat.add_mod (e * x % qP), Nat.mod_mod, ← Nat.add_mod (e * x), ← Nat.add_mod]
  rw [this, h, Nat.add_mul_mod_self_right]
theorem right {x m : Nat} (h : secB x = true) : verB (pubV x) m (sigE x m) (sigS x m) = true := by
  have hs := sig_yes (m := m) h
  unfold verB
  rw [hs.1, hs.2, (pub_yes h).1, sc_cha, val_pub h, rec_sig (cha_q _ _ _)]
  have : scB (addmN (nonN x m) (mulmN (chaN (expmN 4 (nonN x m) pP) (expmN 4 x pP) m) x qP) qP) = true := decide_eq_true (addq_lt _ _)
  rw [this, decide_eq_true rfl]; rfl
/-! ### the sanity check -/
def kS : Nat := 34517855608631459778318790968346957052021824314223759952716990743715090576640
theorem sane_k : nonN 1 4070815637249397495359917441711684260466522898401426079512180687778195963904 = kS := by kernel_rfl
theorem sane_r : expmN 4 kS pP = 14500575653409901411290387783030309382191086797220558246115933178479965539775 := by
  rw [expm_p, ← powm_eq pP 256 4 kS (by unfold kS; decide +kernel)]
  decide +kernel
theorem sane_9 : chaN 14500575653409901411290387783030309382191086797220558246115933178479965539775 4 4070815637249397495359917441711684260466522898401426079512180687778195963904 = 55212807338262820438849241152816710381982209471871400867457725177904933943699 := by kernel_rfl
theorem sane_8 : chaN 14500575653409901411290387783030309382191086797220558246115933178479965539775 4 3618502788666131106986593281521497120414687020801267626233049500247285301248 = 34904273341293243886062390803637023782484123166012357825590957433480282439107 := by kernel_rfl
theorem sane_sec : secB 1 = true := by decide +kernel
theorem sane_pub : pubV 1 = 4 := by rw [(pub_yes sane_sec).1, expm_p]; decide +kernel
theorem sane_ver : verB (pubV 1) 4070815637249397495359917441711684260466522898401426079512180687778195963904 (sigE 1 4070815637249397495359917441711684260466522898401426079512180687778195963904) (sigS 1 4070815637249397495359917441711684260466522898401426079512180687778195963904) = true := right sane_sec
theorem sane_not : verB (pubV 1) 3618502788666131106986593281521497120414687020801267626233049500247285301248 (sigE 1 4070815637249397495359917441711684260466522898401426079512180687778195963904) (sigS 1 4070815637249397495359917441711684260466522898401426079512180687778195963904) = false := by
  have hs := sig_yes (m := 4070815637249397495359917441711684260466522898401426079512180687778195963904) sane_sec
  unfold verB
  rw [hs.1, hs.2]
  have h1 : recN (pubV 1) (chaN (expmN 4 (nonN 1 4070815637249397495359917441711684260466522898401426079512180687778195963904) pP) (pubV 1) 4070815637249397495359917441711684260466522898401426079512180687778195963904) (addmN (nonN 1 4070815637249397495359917441711684260466522898401426079512180687778195963904) (mulmN (chaN (expmN 4 (nonN 1 4070815637249397495359917441711684260466522898401426079512180687778195963904) pP) (pubV 1) 4070815637249397495359917441711684260466522898401426079512180687778195963904) 1 qP) qP) = expmN 4 (nonN 1 4070815637249397495359917441711684260466522898401426079512180687778195963904) pP := by
    have := rec_sig (x := 1) (k := nonN 1 4070815637249397495359917441711684260466522898401426079512180687778195963904) (e := chaN (expmN 4 (nonN 1 4070815637249397495359917441711684260466522898401426079512180687778195963904) pP) (pubV 1) 4070815637249397495359917441711684260466522898401426079512180687778195963904) (cha_q _ _ _)
    rw [← (pub_yes sane_sec).1] at this
    exact this
  rw [h1, sane_k, sane_r, sane_pub, sane_9, sane_8]
  have : decide ((55212807338262820438849241152816710381982209471871400867457725177904933943699 : Nat) = 34904273341293243886062390803637023782484123166012357825590957433480282439107) = false := by decide +kernel
  rw [this, Bool.and_false, Bool.and_false, Bool.and_false]
theorem sane_val : valB 1 = false := rfl

theorem tsO_lt (x t : Nat) : tsO x t < qP := addq_lt _ _
theorem sec_ts {x t : Nat} (h : tsO x t ≠ 0) : secB (tsO x t) = true := decide_eq_true ⟨h, tsO_lt x t⟩
/-- Tweaks of keys and of secrets go together. -/
theorem tw_pow (x t : Nat) : twO (expmN 4 x pP) t = expmN 4 (tsO x t) pP := by
  unfold twO tsO
  rw [mulm_p, expm_p, expm_p, expm_p, addm_q x, ← pow_red (_ % _), Nat.mod_mod, pow_red, Nat.pow_add, ← Nat.mul_mod]
theorem tw_one {x t : Nat} (h : tsO x t = 0) : twO (expmN 4 x pP) t = 1 := by
  rw [tw_pow, h, expm_p, Nat.pow_zero]; exact Nat.mod_eq_of_lt pP_pos
theorem tw_not {x t : Nat} (h : tsO x t ≠ 0) : twO (expmN 4 x pP) t ≠ 1 := by
  rw [tw_pow, expm_p]; exact pow_not_one h (tsO_lt x t)
theorem tsE_ok {x t : Nat} (h : (tsE x t != 0) = false) : secB x = true ∧ tsO x t ≠ 0 := by
  have h0 : tsE x t = 0 := by simpa using h
  cases e : secB x
  · rw [(ts_a e).2] at h0; exact absurd h0 (by decide)
  · refine ⟨rfl, fun ho => ?_⟩
    rw [(ts_b e ho).2] at h0; exact absurd h0 (by decide)
theorem tsE_no {x t : Nat} (hx : secB x = true) (h : (tsE x t != 0) = true) : tsO x t = 0 := by
  have h0 : tsE x t ≠ 0 := by simpa using h
  by_cases e : tsO x t = 0
  · exact e
  · exact absurd (ts_c hx e).2 h0
theorem both {x t : Nat} (h : secB x = true) (ho : tsO x t ≠ 0) : twE (pubV x) t = 0 ∧ twV (pubV x) t = pubV (tsV x t) ∧ pubE (tsV x t) = 0 ∧ secB (tsV x t) = true := by
  have hv := val_pub h
  have ht := tw_c hv (tw_not (x := x) (t := t) ho)
  rw [(pub_yes h).1, ht.1, ht.2, (ts_c h ho).1, (pub_yes (sec_ts ho)).1, (pub_yes (sec_ts ho)).2, sec_ts ho, tw_pow]
  exact ⟨rfl, rfl, rfl, rfl⟩
theorem both0 {x t : Nat} (h : secB x = true) (ho : tsO x t = 0) : twE (pubV x) t = tsE x t := by
  rw [(pub_yes h).1, (tw_b (val_pub h) (tw_one ho)).2, (ts_b h ho).2]
theorem beqI {x y : Int} (h : x = y) : (x == y) = true := by rw [h]; exact beq_self_eq_true y
theorem no_key {x t : Nat} (h : (pubE x != 0) = true) : (tsE x t == 60) = true := by rw [(ts_a (pubE_no h)).2]; rfl
theorem sec_scal {h x : Nat} (e : addmN h 0 qP = x) (hp : (pubE x != 0) = true) : x = 0 := by
  have h1 := pubE_no hp
  have h2 : x < qP := by rw [← e]; exact addq_lt _ _
  unfold secB at h1
  have := of_decide_eq_false h1
  by_cases e0 : x = 0
  · exact e0
  · exact absurd ⟨e0, h2⟩ this
/-! ### two responses -/
theorem neg_exp {x E : Nat} (hE : E < qP) : expmN (expmN 4 x pP) (submN 0 E qP) pP = expmN (expmN 4 x pP) (qP - E) pP := by
  have hq := qP_pos
  have e : submN 0 E qP = (qP - E) % qP := by
    unfold submN
    rw [if_neg (by omega), Nat.zero_mod, Nat.zero_add, Nat.mod_eq_of_lt hE]
  rw [e]
  by_cases h0 : E = 0
  · rw [h0, Nat.sub_zero, Nat.mod_self, expm_p, expm_p, expm_p, Nat.pow_zero, pow_q, Nat.mod_eq_of_lt pP_pos]
  · rw [Nat.mod_eq_of_lt (by omega)]
theorem com_rec {x E S : Nat} (hE : E < qP) : mulmN (expmN 4 S pP) (expmN (expmN 4 x pP) (submN 0 E qP) pP) pP = recN (expmN 4 x pP) E S := by
  unfold recN; rw [neg_exp hE]
theorem ver_get {p m E S : Nat} (h : verB p m E S = true) : E < qP ∧ S < qP ∧ E = chaN (recN p E S) p m := by
  unfold verB at h
  simp only [Bool.and_eq_true] at h
  exact ⟨of_decide_eq_true h.1, of_decide_eq_true h.2.1, of_decide_eq_true h.2.2.2⟩
theorem rec_inj {x E S S' : Nat} (hS : S < qP) (hS' : S' < qP) (h : recN (expmN 4 x pP) E S = recN (expmN 4 x pP) E S') : S = S' := by
  rw [rec_pow, rec_pow, ← pow_red (_ + _), ← pow_red (S' + _)] at h
  have h1 := pow_inj (Nat.mod_lt _ (by have := qP_pos; omega)) (Nat.mod_lt _ (by have := qP_pos; omega)) h
  have key : ∀ a b c : Nat, a < qP → b < qP → (a + c) % qP = (b + c) % qP → a = b := by
    intro a b c ha hb hab
    have hc := Nat.mod_lt c (show 0 < qP by omega)
    rw [Nat.add_mod, Nat.add_mod b, Nat.mod_eq_of_lt ha, Nat.mod_eq_of_lt hb] at hab
    generalize c % qP = d at hab hc
    by_cases h1 : a + d < qP
    · by_cases h2 : b + d < qP
      · rw [Nat.mod_eq_of_lt h1, Nat.mod_eq_of_lt h2] at hab; omega
      · rw [Nat.mod_eq_of_lt h1, Nat.mod_eq_sub_mod (by omega), Nat.mod_eq_of_lt (by omega)] at hab; omega
    · by_cases h2 : b + d < qP
      · rw [Nat.mod_eq_sub_mod (by omega), Nat.mod_eq_of_lt (by omega), Nat.mod_eq_of_lt h2] at hab; omega
      · rw [Nat.mod_eq_sub_mod (by omega), Nat.mod_eq_of_lt (by omega), Nat.mod_eq_sub_mod (by omega), Nat.mod_eq_of_lt (by omega)] at hab; omega
  exact key S S' _ hS hS' h1
theorem two_no {x p m E S T : Nat} (hp : p = expmN 4 x pP) (h1 : verB p m E S = true) (h2 : verB p m E T = true) (hne : decide (T = S) = false) : decide (mulmN (expmN 4 S pP) (expmN p (submN 0 E qP) pP) pP = mulmN (expmN 4 T pP) (expmN p (submN 0 E qP) pP) pP) = false := by
  subst hp
  have a := ver_get h1
  have b := ver_get h2
  refine decide_eq_false fun h => of_decide_eq_false hne ?_
  rw [com_rec a.1, com_rec a.1] at h
  exact (rec_inj a.2.1 b.2.1 h).symm
theorem two_same {x p m E S T : Nat} (hp : p = expmN 4 x pP) (h1 : verB p m E S = true) (h2 : verB p m E T = true) : decide (chaN (mulmN (expmN 4 S pP) (expmN p (submN 0 E qP) pP) pP) p m = chaN (mulmN (expmN 4 T pP) (expmN p (submN 0 E qP) pP) pP) p m) = true := by
  subst hp
  have a := ver_get h1
  have b := ver_get h2
  rw [com_rec a.1, com_rec a.1, ← a.2.2, ← b.2.2]
  exact decide_eq_true rfl
end Go.Proofs.YtoibhbmcplhiaaaDoor
