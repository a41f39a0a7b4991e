/- Counting bits: plain numbers, no program. -/
namespace Go.Pop

/-- how many of the first k bits of x are set -/
def pc : Nat → Nat → Nat
  | 0, _ => 0
  | k + 1, x => x % 2 + pc k (x / 2)

theorem pc_le : ∀ k x, pc k x ≤ k
  | 0, _ => Nat.le_refl _
  | k + 1, x => by have := pc_le k (x / 2); simp only [pc]; omega
theorem xor_mod (a b : Nat) : (a ^^^ b) % 2 = (a % 2 + b % 2) % 2 := by
  have h := Nat.testBit_xor a b 0
  simp only [Nat.testBit_zero] at h
  have h1 := Nat.mod_two_eq_zero_or_one a
  have h2 := Nat.mod_two_eq_zero_or_one b
  have h3 := Nat.mod_two_eq_zero_or_one (a ^^^ b)
  rcases h1 with h1 | h1 <;> rcases h2 with h2 | h2 <;> rcases h3 with h3 | h3 <;> simp [h1, h2, h3] at h ⊢
theorem xor_div (a b : Nat) : (a ^^^ b) / 2 = (a / 2) ^^^ (b / 2) := by
  have h := Nat.xor_div_two_pow (a := a) (b := b) (n := 1)
  simpa using h
theorem pc_zero : ∀ k, pc k 0 = 0
  | 0 => rfl
  | k + 1 => by simp [pc, pc_zero k]
theorem pc_xor_self (k a : Nat) : pc k (a ^^^ a) = 0 := by rw [Nat.xor_self]; exact pc_zero k
theorem pc_eq_zero : ∀ k a b, a < 2 ^ k → b < 2 ^ k → pc k (a ^^^ b) = 0 → a = b
  | 0, a, b, ha, hb, _ => by simp at ha hb; omega
  | k + 1, a, b, ha, hb, h => by
    simp only [pc, xor_mod, xor_div] at h
    have h1 : pc k (a / 2 ^^^ b / 2) = 0 := by omega
    have h2 := pc_eq_zero k (a / 2) (b / 2) (by rw [Nat.pow_succ] at ha; omega) (by rw [Nat.pow_succ] at hb; omega) h1
    omega
theorem pc_tri : ∀ k a b c, pc k (a ^^^ c) ≤ pc k (a ^^^ b) + pc k (b ^^^ c)
  | 0, _, _, _ => Nat.le_refl _
  | k + 1, a, b, c => by
    have := pc_tri k (a / 2) (b / 2) (c / 2)
    simp only [pc, xor_mod, xor_div]
    omega

/-- bytes: the masks of k bytes -/
def rep (m : Nat) : Nat → Nat
  | 0 => 0
  | k + 1 => m + 256 * rep m k
theorem and_split (a b c d : Nat) (ha : a < 256) (hc : c < 256) : (a + 256 * b) &&& (c + 256 * d) = (a &&& c) + 256 * (b &&& d) := by
  have e1 : a + 256 * b = 2 ^ 8 * b + a := by omega
  have e2 : c + 256 * d = 2 ^ 8 * d + c := by omega
  have hac : (a &&& c) < 2 ^ 8 := Nat.lt_of_le_of_lt Nat.and_le_left ha
  have e3 : (a &&& c) + 256 * (b &&& d) = 2 ^ 8 * (b &&& d) + (a &&& c) := by omega
  rw [e1, e2, e3]
  apply Nat.eq_of_testBit_eq
  intro i
  rw [Nat.testBit_and, Nat.testBit_two_pow_mul_add _ (show a < 2 ^ 8 from ha), Nat.testBit_two_pow_mul_add _ (show c < 2 ^ 8 from hc), Nat.testBit_two_pow_mul_add _ hac]
  split
  · rw [Nat.testBit_and]
  · rw [Nat.testBit_and]

def s1 (k x : Nat) : Nat := ((x / 2) &&& rep 85 k) + (x &&& rep 85 k)
def s2 (k x : Nat) : Nat := ((x / 4) &&& rep 51 k) + (x &&& rep 51 k)
def s3 (k x : Nat) : Nat := (x / 16 + x) &&& rep 15 k

theorem b1 : ∀ b < 256, ∀ r < 2, ((b / 2 + 128 * r) &&& 85) + (b &&& 85) = s1 1 b ∧ s1 1 b < 256 := by decide +kernel
theorem b2 : ∀ b < 256, ∀ r < 4, ((b / 4 + 64 * r) &&& 51) + (b &&& 51) = s2 1 b := by decide +kernel
theorem b2' : ∀ b < 256, s2 1 (s1 1 b) < 256 ∧ s2 1 (s1 1 b) % 16 ≤ 4 ∧ s2 1 (s1 1 b) / 16 ≤ 4 ∧ s3 1 (s2 1 (s1 1 b)) = pc 8 b := by decide +kernel
theorem b3 : ∀ c < 256, c % 16 ≤ 4 → c / 16 ≤ 4 → ∀ r < 5, ((c / 16 + 16 * r + c) &&& 15) = s3 1 c ∧ c / 16 + 16 * r + c < 256 := by decide +kernel

theorem s1_step (k b r : Nat) (hb : b < 256) : s1 (k + 1) (b + 256 * r) = s1 1 b + 256 * s1 k r := by
  have h := b1 b hb (r % 2) (Nat.mod_lt _ (by omega))
  have e : (b + 256 * r) / 2 = (b / 2 + 128 * (r % 2)) + 256 * (r / 2) := by omega
  have e1 : s1 (k + 1) (b + 256 * r) = (((b / 2 + 128 * (r % 2)) + 256 * (r / 2)) &&& (85 + 256 * rep 85 k)) + ((b + 256 * r) &&& (85 + 256 * rep 85 k)) := by rw [← e]; rfl
  rw [e1, and_split _ _ _ _ (by omega) (by omega), and_split _ _ _ _ hb (by omega), ← h.1]
  unfold s1
  omega
theorem s2_step (k b r : Nat) (hb : b < 256) : s2 (k + 1) (b + 256 * r) = s2 1 b + 256 * s2 k r := by
  have h := b2 b hb (r % 4) (Nat.mod_lt _ (by omega))
  have e : (b + 256 * r) / 4 = (b / 4 + 64 * (r % 4)) + 256 * (r / 4) := by omega
  have e1 : s2 (k + 1) (b + 256 * r) = (((b / 4 + 64 * (r % 4)) + 256 * (r / 4)) &&& (51 + 256 * rep 51 k)) + ((b + 256 * r) &&& (51 + 256 * rep 51 k)) := by rw [← e]; rfl
  rw [e1, and_split _ _ _ _ (by omega) (by omega), and_split _ _ _ _ hb (by omega), ← h]
  unfold s2
  omega
/-- all three steps, on k bytes: each byte becomes its count of bits -/
def by3 (k x : Nat) : Nat := s3 k (s2 k (s1 k x))
theorem by3_step (k b r : Nat) (hb : b < 256) (hr : (s2 k (s1 k r)) % 16 ≤ 4) : by3 (k + 1) (b + 256 * r) = pc 8 b + 256 * by3 k r ∧ (s2 (k + 1) (s1 (k + 1) (b + 256 * r))) % 16 ≤ 4 := by
  have h1 := (b1 b hb 0 (by omega)).2
  obtain ⟨g1, g2, g3, g4⟩ := b2' b hb
  have e2 : s2 (k + 1) (s1 (k + 1) (b + 256 * r)) = s2 1 (s1 1 b) + 256 * s2 k (s1 k r) := by rw [s1_step k b r hb, s2_step k _ _ h1]
  refine ⟨?_, by rw [e2]; omega⟩
  unfold by3
  rw [e2]
  generalize hc : s2 1 (s1 1 b) = c at *
  generalize hY : s2 k (s1 k r) = Y at *
  have h3 := b3 c g1 g2 g3 (Y % 16) (by omega)
  have e : (c + 256 * Y) / 16 + (c + 256 * Y) = (c / 16 + 16 * (Y % 16) + c) + 256 * (Y / 16 + Y) := by omega
  have e3 : s3 (k + 1) (c + 256 * Y) = ((c / 16 + 16 * (Y % 16) + c) + 256 * (Y / 16 + Y)) &&& (15 + 256 * rep 15 k) := by rw [← e]; rfl
  rw [e3, and_split _ _ _ _ h3.2 (by omega), h3.1, g4]
  rfl
theorem pc_split : ∀ k b x, pc (8 + k) (b + 256 * x) = pc 8 (b % 256) + pc k (b / 256 + x) := by
  intro k b x
  have e : 8 + k = k + 1 + 1 + 1 + 1 + 1 + 1 + 1 + 1 := by omega
  rw [e]
  simp only [pc]
  have e8 : (b + 256 * x) / 2 / 2 / 2 / 2 / 2 / 2 / 2 / 2 = b / 256 + x := by omega
  rw [e8]
  omega

theorem div_step {q p z : Nat} (hp : p < 256) (h : q = p + 256 * z) : q / 256 = z := by omega
theorem fold8 (p0 p1 p2 p3 p4 p5 p6 p7 y : Nat) (l0 : p0 ≤ 8) (l1 : p1 ≤ 8) (l2 : p2 ≤ 8) (l3 : p3 ≤ 8) (l4 : p4 ≤ 8) (l5 : p5 ≤ 8) (l6 : p6 ≤ 8) (l7 : p7 ≤ 8)
    (hy : y = p0 + 256 * (p1 + 256 * (p2 + 256 * (p3 + 256 * (p4 + 256 * (p5 + 256 * (p6 + 256 * p7))))))) :
    ((y + y / 256 + (y + y / 256) / 65536) + (y + y / 256 + (y + y / 256) / 65536) / 4294967296) % 128 = p0 + p1 + p2 + p3 + p4 + p5 + p6 + p7 := by
  obtain ⟨z7, h7⟩ : ∃ z, z = p7 := ⟨_, rfl⟩
  obtain ⟨z6, h6⟩ : ∃ z, z = p6 + 256 * z7 := ⟨_, rfl⟩
  obtain ⟨z5, h5⟩ : ∃ z, z = p5 + 256 * z6 := ⟨_, rfl⟩
  obtain ⟨z4, h4⟩ : ∃ z, z = p4 + 256 * z5 := ⟨_, rfl⟩
  obtain ⟨z3, h3⟩ : ∃ z, z = p3 + 256 * z4 := ⟨_, rfl⟩
  obtain ⟨z2, h2⟩ : ∃ z, z = p2 + 256 * z3 := ⟨_, rfl⟩
  obtain ⟨z1, h1⟩ : ∃ z, z = p1 + 256 * z2 := ⟨_, rfl⟩
  have h0 : y = p0 + 256 * z1 := by rw [hy, h1, h2, h3, h4, h5, h6, h7]
  clear hy
  have e1 : y / 256 = z1 := div_step (by omega) h0
  rw [e1]
  obtain ⟨u, hu⟩ : ∃ u, u = y + z1 := ⟨_, rfl⟩
  rw [← hu]
  have k0 : u = (p0 + p1) + 256 * (z1 + z2) := by clear h2 h3 h4 h5 h6 h7 e1; omega
  have k1 : z1 + z2 = (p1 + p2) + 256 * (z2 + z3) := by clear h0 h3 h4 h5 h6 h7 e1 hu k0; omega
  have k2 : z2 + z3 = (p2 + p3) + 256 * (z3 + z4) := by clear h0 h1 h4 h5 h6 h7 e1 hu k0 k1; omega
  have k3 : z3 + z4 = (p3 + p4) + 256 * (z4 + z5) := by clear h0 h1 h2 h5 h6 h7 e1 hu k0 k1 k2; omega
  have k4 : z4 + z5 = (p4 + p5) + 256 * (z5 + z6) := by clear h0 h1 h2 h3 h6 h7 e1 hu k0 k1 k2 k3; omega
  have k5 : z5 + z6 = (p5 + p6) + 256 * (z6 + z7) := by clear h0 h1 h2 h3 h4 h7 e1 hu k0 k1 k2 k3 k4; omega
  have k6 : z6 + z7 = (p6 + p7) + 256 * z7 := by clear h0 h1 h2 h3 h4 h5 e1 hu k0 k1 k2 k3 k4 k5; omega
  generalize z1 + z2 = u1 at *
  generalize z2 + z3 = u2 at *
  generalize z3 + z4 = u3 at *
  generalize z4 + z5 = u4 at *
  generalize z5 + z6 = u5 at *
  generalize z6 + z7 = u6 at *
  clear h0 h1 h2 h3 h4 h5 h6 hu e1
  have e2 : u / 65536 = u2 := by clear k2 k3 k4 k5 k6 h7; omega
  rw [e2]
  obtain ⟨v, hv⟩ : ∃ v, v = u + u2 := ⟨_, rfl⟩
  rw [← hv]
  have m0 : v = (p0 + p1 + p2 + p3) + 256 * (u1 + u3) := by clear k1 k3 k4 k5 k6 h7 e2; omega
  have m1 : u1 + u3 = (p1 + p2 + p3 + p4) + 256 * (u2 + u4) := by clear k0 k2 k4 k5 k6 h7 e2 hv m0; omega
  have m2 : u2 + u4 = (p2 + p3 + p4 + p5) + 256 * (u3 + u5) := by clear k0 k1 k3 k5 k6 h7 e2 hv m0 m1; omega
  have m3 : u3 + u5 = (p3 + p4 + p5 + p6) + 256 * (u4 + u6) := by clear k0 k1 k2 k4 k6 h7 e2 hv m0 m1 m2; omega
  have m4 : u4 + u6 = (p4 + p5 + p6 + p7) + 256 * (u5 + z7) := by clear k0 k1 k2 k3 k5 e2 hv m0 m1 m2 m3; omega
  generalize u1 + u3 = v1 at *
  generalize u2 + u4 = v2 at *
  generalize u3 + u5 = v3 at *
  generalize u4 + u6 = v4 at *
  clear k0 k1 k2 k3 k4 k5 k6 e2 hv h7
  have e3 : v / 4294967296 = v4 := by clear m4; omega
  rw [e3]
  clear e3 m1 m2 m3
  omega

set_option maxHeartbeats 1000000 in
theorem swar (x : Nat) (hx : x < 2 ^ 64) :
    ((by3 8 x + by3 8 x / 256 + (by3 8 x + by3 8 x / 256) / 65536) + (by3 8 x + by3 8 x / 256 + (by3 8 x + by3 8 x / 256) / 65536) / 4294967296) % 128 = pc 64 x ∧ by3 8 x ≤ 578721382704613384 := by
  obtain ⟨b0, r0, h0, e0⟩ : ∃ b r, b < 256 ∧ x = b + 256 * r := ⟨x % 256, x / 256, by omega, by omega⟩
  obtain ⟨b1, r1, h1, e1⟩ : ∃ b r, b < 256 ∧ r0 = b + 256 * r := ⟨r0 % 256, r0 / 256, by omega, by omega⟩
  obtain ⟨b2, r2, h2, e2⟩ : ∃ b r, b < 256 ∧ r1 = b + 256 * r := ⟨r1 % 256, r1 / 256, by omega, by omega⟩
  obtain ⟨b3, r3, h3, e3⟩ : ∃ b r, b < 256 ∧ r2 = b + 256 * r := ⟨r2 % 256, r2 / 256, by omega, by omega⟩
  obtain ⟨b4, r4, h4, e4⟩ : ∃ b r, b < 256 ∧ r3 = b + 256 * r := ⟨r3 % 256, r3 / 256, by omega, by omega⟩
  obtain ⟨b5, r5, h5, e5⟩ : ∃ b r, b < 256 ∧ r4 = b + 256 * r := ⟨r4 % 256, r4 / 256, by omega, by omega⟩
  obtain ⟨b6, r6, h6, e6⟩ : ∃ b r, b < 256 ∧ r5 = b + 256 * r := ⟨r5 % 256, r5 / 256, by omega, by omega⟩
  obtain ⟨b7, r7, h7, e7⟩ : ∃ b r, b < 256 ∧ r6 = b + 256 * r := ⟨r6 % 256, r6 / 256, by omega, by omega⟩
  have d1 : r0 < 2 ^ 56 := by omega
  have d2 : r1 < 2 ^ 48 := by clear hx e0; omega
  have d3 : r2 < 2 ^ 40 := by clear hx e0 e1 d1; omega
  have d4 : r3 < 2 ^ 32 := by clear hx e0 e1 e2 d1 d2; omega
  have d5 : r4 < 2 ^ 24 := by clear hx e0 e1 e2 e3 d1 d2 d3; omega
  have d6 : r5 < 2 ^ 16 := by clear hx e0 e1 e2 e3 e4 d1 d2 d3 d4; omega
  have d7 : r6 < 2 ^ 8 := by clear hx e0 e1 e2 e3 e4 e5 d1 d2 d3 d4 d5; omega
  have hr7 : r7 = 0 := by clear hx e0 e1 e2 e3 e4 e5 e6 d1 d2 d3 d4 d5 d6; omega
  subst hr7
  clear d1 d2 d3 d4 d5 d6 d7 hx
  have z0 : by3 0 0 = 0 ∧ (s2 0 (s1 0 0)) % 16 ≤ 4 := by decide
  have t7 := by3_step 0 b7 0 h7 z0.2
  rw [← e7] at t7
  have t6 := by3_step 1 b6 r6 h6 t7.2
  rw [← e6] at t6
  have t5 := by3_step 2 b5 r5 h5 t6.2
  rw [← e5] at t5
  have t4 := by3_step 3 b4 r4 h4 t5.2
  rw [← e4] at t4
  have t3 := by3_step 4 b3 r3 h3 t4.2
  rw [← e3] at t3
  have t2 := by3_step 5 b2 r2 h2 t3.2
  rw [← e2] at t2
  have t1 := by3_step 6 b1 r1 h1 t2.2
  rw [← e1] at t1
  have t0 := by3_step 7 b0 r0 h0 t1.2
  rw [← e0] at t0
  have q0 := pc_split 56 b0 r0
  have q1 := pc_split 48 b1 r1
  have q2 := pc_split 40 b2 r2
  have q3 := pc_split 32 b3 r3
  have q4 := pc_split 24 b4 r4
  have q5 := pc_split 16 b5 r5
  have q6 := pc_split 8 b6 r6
  have q7 := pc_split 0 b7 0
  rw [← e0, Nat.mod_eq_of_lt h0, Nat.div_eq_of_lt h0, Nat.zero_add] at q0
  rw [← e1, Nat.mod_eq_of_lt h1, Nat.div_eq_of_lt h1, Nat.zero_add] at q1
  rw [← e2, Nat.mod_eq_of_lt h2, Nat.div_eq_of_lt h2, Nat.zero_add] at q2
  rw [← e3, Nat.mod_eq_of_lt h3, Nat.div_eq_of_lt h3, Nat.zero_add] at q3
  rw [← e4, Nat.mod_eq_of_lt h4, Nat.div_eq_of_lt h4, Nat.zero_add] at q4
  rw [← e5, Nat.mod_eq_of_lt h5, Nat.div_eq_of_lt h5, Nat.zero_add] at q5
  rw [← e6, Nat.mod_eq_of_lt h6, Nat.div_eq_of_lt h6, Nat.zero_add] at q6
  rw [← e7, Nat.mod_eq_of_lt h7, Nat.div_eq_of_lt h7, Nat.zero_add] at q7
  simp only [Nat.reduceAdd] at q0 q1 q2 q3 q4 q5 q6 q7
  have tt0 := t0.1; have tt1 := t1.1; have tt2 := t2.1; have tt3 := t3.1; have tt4 := t4.1; have tt5 := t5.1; have tt6 := t6.1; have tt7 := t7.1
  simp only [Nat.reduceAdd] at tt0 tt1 tt2 tt3 tt4 tt5 tt6 tt7
  have hy : by3 8 x = pc 8 b0 + 256 * (pc 8 b1 + 256 * (pc 8 b2 + 256 * (pc 8 b3 + 256 * (pc 8 b4 + 256 * (pc 8 b5 + 256 * (pc 8 b6 + 256 * pc 8 b7)))))) := by
    rw [tt0, tt1, tt2, tt3, tt4, tt5, tt6, tt7, z0.1, Nat.mul_zero, Nat.add_zero]
  have hP : pc 64 x = pc 8 b0 + pc 8 b1 + pc 8 b2 + pc 8 b3 + pc 8 b4 + pc 8 b5 + pc 8 b6 + pc 8 b7 := by
    rw [q0, q1, q2, q3, q4, q5, q6, q7]
    simp only [pc]
    omega
  rw [hP]
  clear tt0 tt1 tt2 tt3 tt4 tt5 tt6 tt7 t0 t1 t2 t3 t4 t5 t6 t7 q0 q1 q2 q3 q4 q5 q6 q7 e0 e1 e2 e3 e4 e5 e6 e7 hP z0
  generalize by3 8 x = y at *
  refine ⟨?_, ?_⟩
  · exact fold8 _ _ _ _ _ _ _ _ _ (pc_le 8 _) (pc_le 8 _) (pc_le 8 _) (pc_le 8 _) (pc_le 8 _) (pc_le 8 _) (pc_le 8 _) (pc_le 8 _) hy
  · have l0 := pc_le 8 b0
    have l1 := pc_le 8 b1
    have l2 := pc_le 8 b2
    have l3 := pc_le 8 b3
    have l4 := pc_le 8 b4
    have l5 := pc_le 8 b5
    have l6 := pc_le 8 b6
    have l7 := pc_le 8 b7
    rw [hy]
    clear hy
    omega
end Go.Pop
