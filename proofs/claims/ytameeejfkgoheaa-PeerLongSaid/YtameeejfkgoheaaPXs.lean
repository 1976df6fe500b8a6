/- xorshift32 over Nat: that two words have the same next one only if they are one, and that no word comes back within a thousand steps. -/
namespace Go.Proofs.Ytameeejfkgoheaa.Xs
def W : Nat := 4294967296
def L (n x : Nat) : Nat := x ^^^ (x <<< n % W)
def R (n x : Nat) : Nat := x ^^^ (x >>> n)
/-- the step on words -/
def st (x : Nat) : Nat := L 5 (R 17 (L 13 x))
def nx (x : Nat) : Nat := st (if x = 0 then 1 else x)

theorem shl_xor (a b n : Nat) : (a ^^^ b) <<< n % W = (a <<< n % W) ^^^ (b <<< n % W) := by
  apply Nat.eq_of_testBit_eq
  intro i
  have h : W = 2^32 := by decide
  simp only [h, Nat.testBit_mod_two_pow, Nat.testBit_shiftLeft, Nat.testBit_xor]
  by_cases h1 : i < 32 <;> by_cases h2 : n ≤ i <;> simp [h1, h2]
theorem shr_xor (a b n : Nat) : (a ^^^ b) >>> n = (a >>> n) ^^^ (b >>> n) := by
  apply Nat.eq_of_testBit_eq
  intro i
  simp [Nat.testBit_shiftRight, Nat.testBit_xor]
theorem four (a b c d : Nat) : (a ^^^ b) ^^^ (c ^^^ d) = (a ^^^ c) ^^^ (b ^^^ d) := by
  ac_rfl
theorem L_xor (n a b : Nat) : L n (a ^^^ b) = L n a ^^^ L n b := by
  unfold L; rw [shl_xor, four]
theorem R_xor (n a b : Nat) : R n (a ^^^ b) = R n a ^^^ R n b := by
  unfold R; rw [shr_xor, four]
theorem st_xor (a b : Nat) : st (a ^^^ b) = st a ^^^ st b := by
  unfold st; rw [L_xor, R_xor, L_xor]
theorem W_eq : W = 2^32 := by decide
theorem L_lt {n a : Nat} (h : a < W) : L n a < W := by
  unfold L; rw [W_eq] at h ⊢
  exact Nat.xor_lt_two_pow h (Nat.mod_lt _ (by decide))
theorem R_lt {n a : Nat} (h : a < W) : R n a < W := by
  unfold R; rw [W_eq] at h ⊢
  exact Nat.xor_lt_two_pow h (Nat.lt_of_le_of_lt (Nat.shiftRight_le _ _) h)
theorem st_lt {a : Nat} (h : a < W) : st a < W := L_lt (R_lt (L_lt h))
theorem st_zero : st 0 = 0 := by decide

/-- a matrix's columns at a word -/
def ap : List Nat → Nat → Nat
  | [], _ => 0
  | c :: m, x => (if x % 2 = 1 then c else 0) ^^^ ap m (x / 2)
theorem xor_mod2 (x y : Nat) : (x ^^^ y) % 2 = (x % 2 + y % 2) % 2 := by
  have := Nat.xor_mod_two_pow (a := x) (b := y) (n := 1)
  rw [Nat.pow_one] at this
  rw [this]
  rcases Nat.mod_two_eq_zero_or_one x with h | h <;> rcases Nat.mod_two_eq_zero_or_one y with h' | h' <;> rw [h, h'] <;> rfl
theorem xor_div2 (x y : Nat) : (x ^^^ y) / 2 = (x / 2) ^^^ (y / 2) := by
  have := shr_xor x y 1
  simpa [Nat.shiftRight_eq_div_pow] using this
theorem ap_xor : ∀ (m : List Nat) (x y : Nat), ap m (x ^^^ y) = ap m x ^^^ ap m y
  | [], _, _ => by simp [ap]
  | c :: m, x, y => by
    unfold ap
    rw [xor_div2, ap_xor m, four]
    congr 1
    rw [xor_mod2]
    rcases Nat.mod_two_eq_zero_or_one x with h | h <;> rcases Nat.mod_two_eq_zero_or_one y with h' | h' <;> rw [h, h'] <;> simp
theorem ap_zero : ∀ m : List Nat, ap m 0 = 0
  | [] => rfl
  | c :: m => by unfold ap; rw [Nat.zero_div, ap_zero m]; simp
/-- a linear map at a matrix's value -/
theorem ap_map (f : Nat → Nat) (h0 : f 0 = 0) (hf : ∀ a b, f (a ^^^ b) = f a ^^^ f b) : ∀ (m : List Nat) (x : Nat), ap (m.map f) x = f (ap m x)
  | [], _ => h0.symm
  | c :: m, x => by
    rw [List.map_cons]
    unfold ap
    rw [ap_map f h0 hf m, hf]
    congr 1
    split
    · rfl
    · exact h0.symm
/-- the columns of the identity, from bit k on -/
def ids : Nat → Nat → List Nat
  | 0, _ => []
  | n + 1, k => 2 ^ k :: ids n (k + 1)
theorem ap_ids : ∀ (n k x : Nat), x < 2 ^ n → ap (ids n k) x = x * 2 ^ k
  | 0, k, x, h => by
    have : x = 0 := by omega
    subst this; simp [ids, ap]
  | n + 1, k, x, h => by
    unfold ids ap
    rw [ap_ids n (k + 1) (x / 2) (by omega)]
    have e : x / 2 * 2 ^ (k + 1) = (x / 2) <<< (k + 1) := (Nat.shiftLeft_eq _ _).symm
    have hd : x = 2 * (x / 2) + x % 2 := (Nat.div_add_mod x 2).symm
    rcases Nat.mod_two_eq_zero_or_one x with h' | h'
    · rw [if_neg (by omega), Nat.zero_xor, Nat.pow_succ]
      rw [h'] at hd
      rw [show x / 2 * (2 ^ k * 2) = (2 * (x / 2)) * 2 ^ k by rw [Nat.mul_comm (2 ^ k) 2, ← Nat.mul_assoc, Nat.mul_comm (x / 2) 2]]
      rw [show 2 * (x / 2) = x by omega]
    · rw [if_pos h', e]
      rw [Nat.xor_comm]
      have hlt : (2 : Nat) ^ k < 2 ^ (k + 1) := Nat.pow_lt_pow_right (by decide) (by omega)
      have : (x / 2) <<< (k + 1) ^^^ 2 ^ k = (x / 2) <<< (k + 1) + 2 ^ k := by
        rw [Nat.shiftLeft_add_eq_or_of_lt hlt]
        apply Nat.eq_of_testBit_eq
        intro i
        rw [Nat.testBit_xor, Nat.testBit_or, Nat.testBit_shiftLeft, Nat.testBit_two_pow]
        by_cases hi : i ≥ k + 1
        · have : ¬ k = i := by omega
          simp [hi, this]
        · simp [hi]
      rw [this, Nat.shiftLeft_eq]
      have hx : x = 2 * (x / 2) + 1 := by omega
      conv => rhs; rw [hx]
      rw [Nat.add_mul, Nat.one_mul, Nat.pow_succ]
      congr 1
      rw [Nat.mul_comm (2 ^ k) 2, ← Nat.mul_assoc, Nat.mul_comm (x / 2) 2]
def one32 : List Nat := ids 32 0
theorem ap_one (x : Nat) (h : x < W) : ap one32 x = x := by
  unfold one32
  rw [ap_ids 32 0 x (by rw [W_eq] at h; exact h)]; omega
/-- a linear map is the matrix of its columns -/
theorem lin_ap (f : Nat → Nat) (h0 : f 0 = 0) (hf : ∀ a b, f (a ^^^ b) = f a ^^^ f b) (x : Nat) (h : x < W) : f x = ap (one32.map f) x := by
  rw [ap_map f h0 hf, ap_one x h]

def it (f : Nat → Nat) : Nat → Nat → Nat
  | 0, x => x
  | n + 1, x => it f n (f x)
theorem it_add (f : Nat → Nat) : ∀ (m n x : Nat), it f (m + n) x = it f n (it f m x)
  | 0, n, x => by rw [Nat.zero_add]; rfl
  | m + 1, n, x => by rw [Nat.add_right_comm]; exact it_add f m n (f x)
theorem it_succ (f : Nat → Nat) (n x : Nat) : it f (n + 1) x = f (it f n x) := it_add f n 1 x
theorem it_lt : ∀ (n x : Nat), x < W → it st n x < W
  | 0, _, h => h
  | n + 1, _, h => it_lt n _ (st_lt h)
theorem it_xor : ∀ (n a b : Nat), it st n (a ^^^ b) = it st n a ^^^ it st n b
  | 0, _, _ => rfl
  | n + 1, a, b => by unfold it; rw [st_xor, it_xor n]
theorem it_zero : ∀ n, it st n 0 = 0
  | 0 => rfl
  | n + 1 => by unfold it; rw [st_zero, it_zero n]
def sq (m : List Nat) : List Nat := m.map (ap m)
def sqs : Nat → List Nat → List Nat
  | 0, m => m
  | n + 1, m => sqs n (sq m)
/-- m is the matrix of k steps -/
def Is (m : List Nat) (k : Nat) : Prop := ∀ x, x < W → ap m x = it st k x
theorem Is.sq {m : List Nat} {k : Nat} (h : Is m k) : Is (sq m) (k + k) := by
  intro x hx
  unfold Xs.sq
  rw [ap_map (ap m) (ap_zero m) (ap_xor m), h x hx, h _ (it_lt k x hx), it_add]
theorem Is.sqs : ∀ (n : Nat) {m : List Nat} {k : Nat}, Is m k → Is (sqs n m) (2 ^ n * k)
  | 0, m, k, h => by rw [Nat.pow_zero, Nat.one_mul]; exact h
  | n + 1, m, k, h => by
    have := Is.sqs n h.sq
    rw [show 2 ^ (n + 1) * k = 2 ^ n * (k + k) by rw [Nat.pow_succ, Nat.mul_assoc]; congr 1; omega]
    exact this
def tm : List Nat := one32.map st
theorem tm_is : Is tm 1 := fun x hx => (lin_ap st st_zero st_xor x hx).symm
def tinv : List Nat := [4071982377, 3848997458, 3738612901, 3182258506, 2069549716, 4139099432, 3983231568, 3470144673, 2645322050, 995676804, 1991353608, 3982707216, 3469095969, 2643224642, 991481988, 1982963976, 3965927952, 3435537441, 2576107586, 857247876, 1714495752, 3428991504, 2294547488, 294127680, 588255360, 1176510720, 2353021440, 142607360, 285214720, 570429440, 1140858880, 2281717760]
def cinv : List Nat := [3908455207, 1269210685, 4230444939, 3445514380, 977471560, 478053426, 1403726630, 3920167479, 4259196828, 1141860469, 2042332397, 67291395, 4145823888, 1547246068, 1344483642, 1489834806, 942278809, 464277749, 3144945871, 3697391500, 89564266, 538550978, 2741397392, 2505068165, 1903679604, 3749508893, 3257480797, 1539128405, 3463255237, 2862100123, 216681703, 2931494590]
theorem inv_ok : tm.map (ap tinv) = one32 := by decide +kernel
theorem back (x : Nat) (h : x < W) : ap tinv (st x) = x := by
  rw [lin_ap st st_zero st_xor x h, show one32.map st = tm from rfl, ← ap_map (ap tinv) (ap_zero _) (ap_xor _), inv_ok, ap_one x h]
theorem st_inj {x y : Nat} (hx : x < W) (hy : y < W) (h : st x = st y) : x = y := by
  rw [← back x hx, h, back y hy]
theorem full : sqs 32 tm = tm := by decide +kernel
theorem it_full' (N : Nat) (hN : 2 ^ 32 * 1 = N + 1) (x : Nat) (h : x < W) : it st N x = x := by
  have h1 := Is.sqs 32 tm_is x h
  rw [full, tm_is x h, hN, it_succ st N] at h1
  exact (st_inj h (it_lt N x h) h1).symm
theorem it_full (x : Nat) (h : x < W) : it st 4294967295 x = x := it_full' _ (by decide) x h
def bm : List Nat := List.zipWith (· ^^^ ·) (sqs 16 tm) tm
theorem ap_zip : ∀ (a b : List Nat) (x : Nat), a.length = b.length → ap (List.zipWith (· ^^^ ·) a b) x = ap a x ^^^ ap b x
  | [], [], _, _ => by simp [ap]
  | [], _ :: _, _, h => by simp at h
  | _ :: _, [], _, h => by simp at h
  | c :: a, d :: b, x, h => by
    rw [List.zipWith_cons_cons]
    unfold ap
    rw [ap_zip a b _ (by simpa using h), four]
    congr 1
    split <;> rfl
theorem c_ok : bm.map (ap cinv) = one32 := by decide +kernel
theorem none_65535 (x : Nat) (h : x < W) (he : it st 65535 x = x) : x = 0 := by
  have h1 := Is.sqs 16 tm_is x h
  rw [show 2 ^ 16 * 1 = 65535 + 1 by decide, it_succ, he] at h1
  have h2 : ap bm x = 0 := by
    unfold bm
    rw [ap_zip _ _ _ (by decide +kernel), h1, tm_is x h]
    show st x ^^^ it st 1 x = 0
    show st x ^^^ st x = 0
    exact Nat.xor_self _
  have h3 := ap_map (ap cinv) (ap_zero _) (ap_xor _) bm x
  rw [c_ok, ap_one x h, h2, ap_zero] at h3
  exact h3
theorem it_mul (d : Nat) (x : Nat) (h : it st d x = x) : ∀ k, it st (k * d) x = x
  | 0 => by rw [Nat.zero_mul]; rfl
  | k + 1 => by rw [Nat.add_mul, Nat.one_mul, it_add, it_mul d x h k, h]
theorem it_gcd (x : Nat) : ∀ (m n : Nat), it st m x = x → it st n x = x → it st (Nat.gcd m n) x = x := by
  intro m n
  induction m, n using Nat.gcd.induction with
  | H0 n => intro _ h; rw [Nat.gcd_zero_left]; exact h
  | H1 m n hm ih =>
    intro h1 h2
    rw [Nat.gcd_rec]
    refine ih ?_ h1
    have h3 := it_mul m x h1 (n / m)
    have h4 : n = n / m * m + n % m := by rw [Nat.mul_comm]; exact (Nat.div_add_mod n m).symm
    rw [h4, it_add, h3] at h2
    exact h2
def gcds : Nat → Bool
  | 0 => true
  | n + 1 => (65535 % Nat.gcd (n + 1) 4294967295 == 0) && gcds n
theorem gcds_ok : gcds 1000 = true := by decide +kernel
theorem gcds_at : ∀ (m n : Nat), gcds m = true → 0 < n → n ≤ m → Nat.gcd n 4294967295 ∣ 65535
  | 0, n, _, h1, h2 => by omega
  | m + 1, n, h, h1, h2 => by
    unfold gcds at h
    rw [Bool.and_eq_true] at h
    by_cases e : n = m + 1
    · subst e; exact Nat.dvd_of_mod_eq_zero (by simpa using h.1)
    · exact gcds_at m n h.2 h1 (by omega)
/-- No word but 0 comes back within a thousand steps. -/
theorem long (x n : Nat) (h : x < W) (h0 : x ≠ 0) (h1 : 0 < n) (h2 : n ≤ 1000) : it st n x ≠ x := by
  intro he
  have hg := it_gcd x n 4294967295 he (it_full x h)
  obtain ⟨k, hk⟩ := gcds_at 1000 n gcds_ok h1 h2
  have := it_mul _ x hg k
  rw [Nat.mul_comm, ← hk] at this
  exact h0 (none_65535 x h this)
theorem st_ne_zero (x : Nat) (h : x < W) (h0 : x ≠ 0) : st x ≠ 0 := by
  intro e
  have : st x = st 0 := by rw [e, st_zero]
  exact h0 (st_inj h (by decide) this)
theorem nx_lt (x : Nat) (h : x < W) : nx x < W := by
  unfold nx; split
  · exact st_lt (by decide)
  · exact st_lt h
theorem nx_ne_zero (x : Nat) (h : x < W) : nx x ≠ 0 := by
  unfold nx; split
  · exact st_ne_zero 1 (by decide) (by decide)
  · exact st_ne_zero x h (by assumption)
theorem nx_inj (x y : Nat) (hx : x < W) (hy : y < W) : nx x = nx y ↔ (x = y ∨ x ≤ 1 ∧ y ≤ 1) := by
  unfold nx
  constructor
  · intro h
    have := st_inj (x := if x = 0 then 1 else x) (y := if y = 0 then 1 else y) (by split <;> first | decide | assumption) (by split <;> first | decide | assumption) h
    split at this <;> split at this <;> omega
  · intro h
    congr 1
    split <;> split <;> omega
end Go.Proofs.Ytameeejfkgoheaa.Xs
