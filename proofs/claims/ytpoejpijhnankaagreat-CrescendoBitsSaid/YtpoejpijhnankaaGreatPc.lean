/-
  The number of set bits of a word, counted one by one, is what the adding of neighbours in parallel gives. Plain arithmetic. No condition.
-/
namespace Go.Proofs.Tryz.Pc

/-- The set bits among the first n. -/
def pc : Nat → Nat → Nat
  | 0, _ => 0
  | n + 1, x => pc n x + x / 2 ^ n % 2

/-- Digit by digit in base 256. -/
def dm (f : Nat → Nat) : Nat → Nat → Nat
  | 0, _ => 0
  | n + 1, x => 256 * dm f n (x / 256) + f (x % 256)

def rp (c : Nat) : Nat → Nat
  | 0 => 0
  | n + 1 => 256 * rp c n + c

theorem and_digit (a b : Nat) : a &&& b = 256 * ((a / 256) &&& (b / 256)) + ((a % 256) &&& (b % 256)) := by
  have h1 : (a &&& b) / 256 = a / 256 &&& b / 256 := Nat.and_div_two_pow (n := 8)
  have h2 : (a &&& b) % 256 = a % 256 &&& b % 256 := Nat.and_mod_two_pow (n := 8)
  rw [← h1, ← h2]
  omega

theorem rp_div {c : Nat} (h : c < 256) (n : Nat) : rp c (n + 1) / 256 = rp c n := by simp only [rp]; omega
theorem rp_mod {c : Nat} (h : c < 256) (n : Nat) : rp c (n + 1) % 256 = c := by simp only [rp]; omega

def g1 (r : Nat) : Nat := ((r / 2) &&& 85) + (r &&& 85)
def g2 (r : Nat) : Nat := ((r / 4) &&& 51) + (r &&& 51)
def g3 (r : Nat) : Nat := (r + r / 16) % 16

theorem byte {p : Nat → Prop} [DecidablePred p] (h : ∀ r : Fin 256, p r.val) {r : Nat} (hr : r < 256) : p r := h ⟨r, hr⟩

theorem low1 (q r : Nat) (hr : r < 256) : (128 * (q % 2) + r / 2) &&& 85 = (r / 2) &&& 85 := by
  rcases Nat.mod_two_eq_zero_or_one q with h | h <;> rw [h]
  · simp
  · exact byte (p := fun r => (128 * 1 + r / 2) &&& 85 = (r / 2) &&& 85) (by decide +kernel) hr
theorem low2 (q r : Nat) (hr : r < 256) : (64 * (q % 4) + r / 4) &&& 51 = (r / 4) &&& 51 := by
  have h : q % 4 < 4 := Nat.mod_lt _ (by decide)
  have key : ∀ k : Fin 4, ∀ r : Fin 256, (64 * k.val + r.val / 4) &&& 51 = (r.val / 4) &&& 51 := by decide +kernel
  exact key ⟨q % 4, h⟩ ⟨r, hr⟩

theorem step1 : ∀ (n x : Nat), ((x / 2) &&& rp 85 n) + (x &&& rp 85 n) = dm g1 n x
  | 0, x => by simp [rp, dm]
  | n + 1, x => by
    have ih := step1 n (x / 256)
    rw [and_digit (x / 2), and_digit x, rp_div (by decide), rp_mod (by decide)]
    have e1 : x / 2 / 256 = x / 256 / 2 := by omega
    have e2 : x / 2 % 256 = 128 * (x / 256 % 2) + x % 256 / 2 := by omega
    rw [e1, e2, low1 _ _ (Nat.mod_lt _ (by decide))]
    simp only [dm, ← ih, g1]
    omega

theorem step2 : ∀ (n x : Nat), ((x / 4) &&& rp 51 n) + (x &&& rp 51 n) = dm g2 n x
  | 0, x => by simp [rp, dm]
  | n + 1, x => by
    have ih := step2 n (x / 256)
    rw [and_digit (x / 4), and_digit x, rp_div (by decide), rp_mod (by decide)]
    have e1 : x / 4 / 256 = x / 256 / 4 := by omega
    have e2 : x / 4 % 256 = 64 * (x / 256 % 4) + x % 256 / 4 := by omega
    rw [e1, e2, low2 _ _ (Nat.mod_lt _ (by decide))]
    simp only [dm, ← ih, g2]
    omega

theorem dm_comp {f g : Nat → Nat} (hf : ∀ r, r < 256 → f r < 256) : ∀ (n x : Nat), dm g n (dm f n x) = dm (fun r => g (f r)) n x
  | 0, _ => rfl
  | n + 1, x => by
    have h := hf (x % 256) (Nat.mod_lt _ (by decide))
    have e1 : dm f (n + 1) x / 256 = dm f n (x / 256) := by simp only [dm]; omega
    have e2 : dm f (n + 1) x % 256 = f (x % 256) := by simp only [dm]; omega
    show 256 * dm g n (dm f (n + 1) x / 256) + g (dm f (n + 1) x % 256) = _
    rw [e1, e2, dm_comp hf n]
    rfl

theorem and15 (x : Nat) : x &&& 15 = x % 16 := Nat.and_two_pow_sub_one_eq_mod x 4

theorem step3 {f : Nat → Nat} (hf : ∀ r, r < 256 → f r % 16 ≤ 4 ∧ f r / 16 ≤ 4) : ∀ (n x : Nat), (dm f n x / 16 + dm f n x) &&& rp 15 n = dm (fun r => g3 (f r)) n x
  | 0, x => by simp [rp, dm]
  | n + 1, x => by
    have ih := step3 hf n (x / 256)
    have h := hf (x % 256) (Nat.mod_lt _ (by decide))
    obtain ⟨y, hy⟩ : ∃ y, dm f n (x / 256) = y := ⟨_, rfl⟩
    obtain ⟨r, hr⟩ : ∃ r, f (x % 256) = r := ⟨_, rfl⟩
    have hq : y % 16 ≤ 4 := by
      rw [← hy]
      cases n with
      | zero => simp [dm]
      | succ n =>
        have h := hf (x / 256 % 256) (Nat.mod_lt _ (by decide))
        simp only [dm]
        omega
    rw [and_digit, rp_div (by decide), rp_mod (by decide)]
    simp only [dm]
    rw [hy] at ih ⊢
    rw [hr] at h ⊢
    have e1 : ((256 * y + r) / 16 + (256 * y + r)) / 256 = y / 16 + y := by omega
    have e2 : ((256 * y + r) / 16 + (256 * y + r)) % 256 % 16 = g3 r := by simp only [g3]; omega
    rw [e1, ih, and15, e2]

def h (r : Nat) : Nat := g3 (g2 (g1 r))

theorem h_eq {r : Nat} (hr : r < 256) : h r = pc 8 r := byte (p := fun r => h r = pc 8 r) (by decide +kernel) hr
theorem g1_lt (r : Nat) (hr : r < 256) : g1 r < 256 := byte (p := fun r => g1 r < 256) (by decide +kernel) hr
theorem g21_nib (r : Nat) (hr : r < 256) : g2 (g1 r) % 16 ≤ 4 ∧ g2 (g1 r) / 16 ≤ 4 := byte (p := fun r => g2 (g1 r) % 16 ≤ 4 ∧ g2 (g1 r) / 16 ≤ 4) (by decide +kernel) hr

theorem pc_add (a : Nat) : ∀ (b x : Nat), pc (a + b) x = pc a x + pc b (x / 2 ^ a)
  | 0, x => by simp [pc]
  | b + 1, x => by
    show pc (a + b) x + x / 2 ^ (a + b) % 2 = pc a x + (pc b (x / 2 ^ a) + x / 2 ^ a / 2 ^ b % 2)
    rw [pc_add a b x, Nat.div_div_eq_div_mul, ← Nat.pow_add]
    omega

theorem pc_mod : ∀ (n m x : Nat), n ≤ m → pc n (x % 2 ^ m) = pc n x
  | 0, _, _, _ => rfl
  | n + 1, m, x, hm => by
    show pc n (x % 2 ^ m) + x % 2 ^ m / 2 ^ n % 2 = pc n x + x / 2 ^ n % 2
    rw [pc_mod n m x (by omega)]
    congr 1
    have e : m = n + (m - n - 1 + 1) := by omega
    rw [e, Nat.pow_add, Nat.mod_mul_right_div_self, Nat.pow_succ, Nat.mul_comm, Nat.mod_mul_right_mod]

def oc (x : Nat) : Nat :=
  let x1 := ((x / 2) &&& rp 85 8) + (x &&& rp 85 8)
  let x2 := ((x1 / 4) &&& rp 51 8) + (x1 &&& rp 51 8)
  (x2 / 16 + x2) &&& rp 15 8

theorem oc_eq (x : Nat) : oc x = dm h 8 x := by
  unfold oc
  simp only
  rw [step1, step2, dm_comp g1_lt, step3 g21_nib]
  rfl

theorem h_le (r : Nat) (hr : r < 256) : h r ≤ 8 := byte (p := fun r => h r ≤ 8) (by decide +kernel) hr

def sum8 (x : Nat) : Nat := h (x % 256) + (h (x / 256 % 256) + (h (x / 256 / 256 % 256) + (h (x / 256 / 256 / 256 % 256) + (h (x / 256 / 256 / 256 / 256 % 256) + (h (x / 256 / 256 / 256 / 256 / 256 % 256) + (h (x / 256 / 256 / 256 / 256 / 256 / 256 % 256) + h (x / 256 / 256 / 256 / 256 / 256 / 256 / 256 % 256)))))))

theorem pc_sum8 (x : Nat) : pc 64 x = sum8 x := by
  have one : ∀ (n y : Nat), pc (8 + n) y = h (y % 256) + pc n (y / 256) := by
    intro n y
    rw [pc_add 8 n y, h_eq (Nat.mod_lt _ (by decide))]
    congr 1
    exact (pc_mod 8 8 y (Nat.le_refl _)).symm
  have e : ∀ y, pc 8 y = h (y % 256) := fun y => by have := one 0 y; simpa [pc] using this
  unfold sum8
  rw [← e (x / 256 / 256 / 256 / 256 / 256 / 256 / 256), ← one, ← one, ← one, ← one, ← one, ← one, ← one]

theorem l1 (a b s : Nat) (ha : a ≤ 16) (hb : b ≤ 16) : (a + 256 * (b + 256 * s)) / 65536 = s := by omega
theorem l2 (a b c d s : Nat) (ha : a ≤ 32) (hb : b ≤ 32) (hc : c ≤ 32) (hd : d ≤ 32) : (a + 256 * b + 65536 * (c + 256 * d + 65536 * s)) / 4294967296 = s := by
  have h : a + 256 * b + 65536 * (c + 256 * d + 65536 * s) = (a + 256 * b + 65536 * (c + 256 * d)) + 4294967296 * s := by omega
  have h2 : a + 256 * b + 65536 * (c + 256 * d) < 4294967296 := by omega
  rw [h, Nat.add_mul_div_left _ _ (by decide), Nat.div_eq_of_lt h2, Nat.zero_add]
theorem l3 (a k : Nat) (ha : a ≤ 64) : (a + 256 * k) % 128 = a := by omega

theorem f1 (y1 z z1 z2 z3 c0 c1 c2 : Nat) (e22 : z2 = 256 * z3 + c2) (e11 : z1 = 256 * z2 + c1) (hz : z = 256 * z1 + c0) (e1 : y1 = z + z1) : y1 = (c0 + c1) + 256 * ((c1 + c2) + 256 * (z2 + z3)) := by omega
theorem gg (c2 c3 c4 z2 z3 z4 z5 : Nat) (e4 : z4 = 256 * z5 + c4) (e33 : z3 = 256 * z4 + c3) (e22 : z2 = 256 * z3 + c2) : z2 + z3 = (c2 + c3) + 256 * (c3 + c4) + 65536 * (z4 + z5) := by omega
theorem f2 (a b s2 s4 s6 y1 y2 c2 c3 c4 c5 c6 : Nat) (g2 : s2 = (c2 + c3) + 256 * (c3 + c4) + 65536 * s4) (g4 : s4 = (c4 + c5) + 256 * (c5 + c6) + 65536 * s6) (f1 : y1 = a + 256 * (b + 256 * s2)) (e2 : y2 = y1 + s2) :
    y2 = (a + (c2 + c3)) + 256 * (b + (c3 + c4)) + 65536 * (((c2 + c3) + (c4 + c5)) + 256 * ((c3 + c4) + (c5 + c6)) + 65536 * (s4 + s6)) := by omega
theorem f3 (a b x s4 s6 y2 y3 c4 c5 c6 c7 : Nat) (f2 : y2 = a + 256 * b + 65536 * x) (g4 : s4 = (c4 + c5) + 256 * (c5 + c6) + 65536 * s6) (e6 : s6 = 256 * c7 + c6 + c7) (e3 : y3 = y2 + (s4 + s6)) :
    y3 = (a + (c4 + c5) + (c6 + c7)) + 256 * (b + 256 * x + (c5 + c6) + 256 * s6 + c7) := by omega
theorem hd (z z1 c : Nat) (h : z = 256 * z1 + c) (hc : c ≤ 8) : z / 256 = z1 := by omega

/-- The rest of the adding. -/
theorem fold (c0 c1 c2 c3 c4 c5 c6 c7 : Nat) (h0 : c0 ≤ 8) (h1 : c1 ≤ 8) (h2 : c2 ≤ 8) (h3 : c3 ≤ 8) (h4 : c4 ≤ 8) (h5 : c5 ≤ 8) (h6 : c6 ≤ 8) (h7 : c7 ≤ 8) (z y1 y2 y3 : Nat)
    (hz : z = 256 * (256 * (256 * (256 * (256 * (256 * (256 * (256 * 0 + c7) + c6) + c5) + c4) + c3) + c2) + c1) + c0) (e1 : y1 = z + z / 256) (e2 : y2 = y1 + y1 / 65536) (e3 : y3 = y2 + y2 / 4294967296) :
    y3 % 128 = c0 + (c1 + (c2 + (c3 + (c4 + (c5 + (c6 + c7)))))) := by
  rw [Nat.mul_zero, Nat.zero_add] at hz
  obtain ⟨z6, e6⟩ : ∃ z6, z6 = 256 * c7 + c6 := ⟨_, rfl⟩
  rw [← e6] at hz
  obtain ⟨z5, e5⟩ : ∃ z5, z5 = 256 * z6 + c5 := ⟨_, rfl⟩
  rw [← e5] at hz
  obtain ⟨z4, e4⟩ : ∃ z4, z4 = 256 * z5 + c4 := ⟨_, rfl⟩
  rw [← e4] at hz
  obtain ⟨z3, e33⟩ : ∃ z3, z3 = 256 * z4 + c3 := ⟨_, rfl⟩
  rw [← e33] at hz
  obtain ⟨z2, e22⟩ : ∃ z2, z2 = 256 * z3 + c2 := ⟨_, rfl⟩
  rw [← e22] at hz
  obtain ⟨z1, e11⟩ : ∃ z1, z1 = 256 * z2 + c1 := ⟨_, rfl⟩
  rw [← e11] at hz
  rw [hd z z1 c0 hz h0] at e1
  have k1 := f1 y1 z z1 z2 z3 c0 c1 c2 e22 e11 hz e1
  have d2 : y1 / 65536 = z2 + z3 := by rw [k1]; exact l1 _ _ _ (Nat.add_le_add h0 h1) (Nat.add_le_add h1 h2)
  rw [d2] at e2
  have g2 := gg c2 c3 c4 z2 z3 z4 z5 e4 e33 e22
  have g4 := gg c4 c5 c6 z4 z5 z6 c7 e6 e5 e4
  have k2 := f2 _ _ _ _ _ y1 y2 c2 c3 c4 c5 c6 g2 g4 k1 e2
  have d3 : y2 / 4294967296 = (z4 + z5) + (z6 + c7) := by
    rw [k2]
    exact l2 _ _ _ _ _ (Nat.add_le_add (Nat.add_le_add h0 h1) (Nat.add_le_add h2 h3)) (Nat.add_le_add (Nat.add_le_add h1 h2) (Nat.add_le_add h3 h4)) (Nat.add_le_add (Nat.add_le_add h2 h3) (Nat.add_le_add h4 h5)) (Nat.add_le_add (Nat.add_le_add h3 h4) (Nat.add_le_add h5 h6))
  rw [d3] at e3
  have k3 := f3 _ _ _ _ _ y2 y3 c4 c5 c6 c7 k2 g4 (by rw [e6]) e3
  rw [k3, l3 _ _ (Nat.add_le_add (Nat.add_le_add (Nat.add_le_add (Nat.add_le_add h0 h1) (Nat.add_le_add h2 h3)) (Nat.add_le_add h4 h5)) (Nat.add_le_add h6 h7))]
  clear k1 k2 k3 g2 g4 d2 d3 e1 e2 e3 e4 e5 e6 e11 e22 e33 hz
  omega

end Go.Proofs.Tryz.Pc
