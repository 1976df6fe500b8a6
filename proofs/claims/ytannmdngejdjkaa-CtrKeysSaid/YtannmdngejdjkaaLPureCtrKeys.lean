/- CtrKeys, plain: it answers true. -/
import Derived.Test.YtannmdngejdjkaaLPCtrFuel
import Derived.Test.YtannmdngejdjkaaLHRow
import Derived.Test.YtannmdngejdjkaaLx31
namespace Go.Proofs.Ytannmdngejdjkaa.L
open Go.RowKit Go.Proofs.YtannmdngejdjkaaW.PrintWords Go.Proofs.YtannmdngejdjkaaW.PrintLast Go.Proofs.YtannmdngejdjkaaW.PrintMore Go.Proofs.YtannmdngejdjkaaW
set_option linter.unusedVariables false
theorem keysC_true (k : Nat) (l a b : List Ct) (key : ByteArray) : law06_CtrKeys.j0 (k + 1) l a b key true true = some true := by
  simp only [law06_CtrKeys.j0]; rfl
def hasC (l : List Ct) (key : ByteArray) : Bool := l.any fun x => x.f0.toList == key.toList
theorem keysC_loop (key : ByteArray) (n : Int) : ∀ (suf pre : List Ct) (is : Bool) (k : Nat), suf.length < k → (pre ++ suf).length < 4611686018427387904 → getC (pre ++ suf) key = n →
    law06_CtrKeys.l0 k key (pre ++ suf) n is ((pre.length : Nat) : Int) = some ((is || hasC suf key) == (n != 0))
  | suf, pre, is, 0, hk, _, _ => by omega
  | [], pre, is, k + 1, _, _, hg => by
    simp only [law06_CtrKeys.l0]
    rw [if_neg (by simp), getC_f, hg]
    simp [hasC]
  | x :: suf, pre, is, k + 1, hk, hl, hg => by
    have hlt : ((pre.length : Nat) : Int) < (((pre ++ x :: suf).length : Nat) : Int) := by simp; omega
    have hpl : pre.length < 4611686018427387904 := by simp at hl; omega
    have ih := fun is' => keysC_loop key n suf (pre ++ [x]) is' k (by simp at hk; omega) (by simpa using hl) (by rw [appS]; exact hg)
    simp only [appS, lenS] at ih
    simp only [law06_CtrKeys.l0]
    rw [if_pos hlt, wrapS hpl]
    cases is with
    | true =>
      rw [if_pos rfl, ih]
      simp
    | false =>
      rw [if_neg (by simp), if_pos (by omega), rdC_mid, ih]
      simp [hasC]
theorem hasC_iff {l : List Ct} (h : mayC l = true) (key : ByteArray) : hasC l key = (getC l key != 0) := by
  rw [Bool.eq_iff_iff]
  simp only [hasC, List.any_eq_true, beq_iff_eq, bne_iff_ne, ne_eq]
  constructor
  · rintro ⟨x, hx, e⟩ hz
    have hk := toList_inj e
    have hp := may_up h
    have hnz := may_nz h x hx
    apply hnz
    clear hnz h
    induction l with
    | nil => cases hx
    | cons y l ih =>
      rw [List.pairwise_cons] at hp
      rw [getC_cons] at hz
      rcases List.mem_cons.1 hx with rfl | hx
      · rw [if_pos hk] at hz; exact hz
      · have : y.f0 ≠ key := fun e => cLt_ne (hp.1 x hx) (e.trans hk.symm)
        rw [if_neg this] at hz
        exact ih hx hz hp.2
  · intro hz
    obtain ⟨x, hx, h1, _⟩ := getC_mem hz
    exact ⟨x, hx, by rw [h1]⟩
theorem keysC_j (k : Nat) (hk : 900 ≤ k) (l a b : List Ct) (key : ByteArray) (big : Bool) (fl : fewC l = true) (fa : fewC a = true) (fb : fewC b = true) (ml : mayC l = true) (ma : mayC a = true) (mb : mayC b = true) : law06_CtrKeys.j0 (k + 1) l a b key true big = some true := by
  cases big with
  | true => exact keysC_true k l a b key
  | false =>
    have ll := fewC_len fl
    have la := fewC_len fa
    have lb := fewC_len fb
    have l1 := mergeC_len l a b
    have hn : getC (mergeC l a b) key = wrap64 (wrap64 (getC a key + getC b key) - getC l key) := by rw [get_merge ml ma mb, wrap_sl]
    simp only [law06_CtrKeys.j0]
    rw [if_neg (by simp), mergeC_f (fewC_size fl) (fewC_size fa) (fewC_size fb) (by omega) (by omega) (by omega), getC_f, getC_f, getC_f]
    simp only [Option.bind_some]
    have h := keysC_loop key _ (mergeC l a b) [] false k (by omega) (by simp; omega) hn
    simp only [List.nil_append, List.length_nil] at h
    rw [show ((0 : Nat) : Int) = 0 from rfl] at h
    rw [h, Bool.false_or, hasC_iff (may_merge ml ma mb), hn]
    simp
theorem ctrKeys_pure' (k : Nat) (hk : 900 ≤ k) (l a b : List Ct) (key : ByteArray) : law06_CtrKeys.f (k + 1) l a b key = some true := by
  have ht := keysC_true k l a b key
  unfold law06_CtrKeys.f
  rw [awakeC_k _ (by omega), fewC_f _ l (by omega), fewC_f _ a (by omega), fewC_f _ b (by omega)]
  simp only [Option.bind_some, if_true]
  cases h1 : fewC l with
  | false => exact ht
  | true =>
    cases h2 : fewC a with
    | false => exact ht
    | true =>
      cases h3 : fewC b with
      | false => exact ht
      | true =>
        have ll := fewC_len h1
        have la := fewC_len h2
        have lb := fewC_len h3
        rw [mayCk _ l (by omega) (by omega) (fewC_size h1), mayCk _ a (by omega) (by omega) (fewC_size h2), mayCk _ b (by omega) (by omega) (fewC_size h3)]
        simp only [Option.bind_some, if_true]
        cases h5 : mayC l with
        | false => exact ht
        | true =>
          cases h6 : mayC a with
          | false => exact ht
          | true =>
            cases h7 : mayC b with
            | false => exact ht
            | true => exact keysC_j k hk l a b key _ h1 h2 h3 h5 h6 h7
theorem ctrKeys_pure (l0 l1 l2 : List S53) (a3 : ByteArray) (_h0 : ∀ x ∈ l0, okCtr x) (_h1 : ∀ x ∈ l1, okCtr x) (_h2 : ∀ x ∈ l2, okCtr x) (_h3 : a3.size ≤ maxLen) :
    ∃ k, law06_CtrKeys.f k l0 l1 l2 a3 = some true := ⟨900 + 1, ctrKeys_pure' 900 (Nat.le_refl _) l0 l1 l2 a3⟩
end Go.Proofs.Ytannmdngejdjkaa.L
