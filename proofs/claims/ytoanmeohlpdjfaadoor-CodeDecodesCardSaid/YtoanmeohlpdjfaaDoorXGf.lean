import Derived.Test.YtoanmeohlpdjfaaDoorXB
namespace Go.X
set_option linter.unusedSimpArgs false
set_option linter.unusedVariables false

/-! ## GF(2^8), with no program in sight -/
def dbl (a : Nat) : Nat := if a < 128 then 2 * a else (2 * a) ^^^ 285
def dbls : Nat → Nat → Nat
  | 0, a => a
  | n + 1, a => dbl (dbls n a)
def EXP : List Nat := [1, 2, 4, 8, 16, 32, 64, 128, 29, 58, 116, 232, 205, 135, 19, 38, 76, 152, 45, 90, 180, 117, 234, 201, 143, 3, 6, 12, 24, 48, 96, 192, 157, 39, 78, 156, 37, 74, 148, 53, 106, 212, 181, 119, 238, 193, 159, 35, 70, 140, 5, 10, 20, 40, 80, 160, 93, 186, 105, 210, 185, 111, 222, 161, 95, 190, 97, 194, 153, 47, 94, 188, 101, 202, 137, 15, 30, 60, 120, 240, 253, 231, 211, 187, 107, 214, 177, 127, 254, 225, 223, 163, 91, 182, 113, 226, 217, 175, 67, 134, 17, 34, 68, 136, 13, 26, 52, 104, 208, 189, 103, 206, 129, 31, 62, 124, 248, 237, 199, 147, 59, 118, 236, 197, 151, 51, 102, 204, 133, 23, 46, 92, 184, 109, 218, 169, 79, 158, 33, 66, 132, 21, 42, 84, 168, 77, 154, 41, 82, 164, 85, 170, 73, 146, 57, 114, 228, 213, 183, 115, 230, 209, 191, 99, 198, 145, 63, 126, 252, 229, 215, 179, 123, 246, 241, 255, 227, 219, 171, 75, 150, 49, 98, 196, 149, 55, 110, 220, 165, 87, 174, 65, 130, 25, 50, 100, 200, 141, 7, 14, 28, 56, 112, 224, 221, 167, 83, 166, 81, 162, 89, 178, 121, 242, 249, 239, 195, 155, 43, 86, 172, 69, 138, 9, 18, 36, 72, 144, 61, 122, 244, 245, 247, 243, 251, 235, 203, 139, 11, 22, 44, 88, 176, 125, 250, 233, 207, 131, 27, 54, 108, 216, 173, 71, 142]
def LOG : List Nat := [0, 0, 1, 25, 2, 50, 26, 198, 3, 223, 51, 238, 27, 104, 199, 75, 4, 100, 224, 14, 52, 141, 239, 129, 28, 193, 105, 248, 200, 8, 76, 113, 5, 138, 101, 47, 225, 36, 15, 33, 53, 147, 142, 218, 240, 18, 130, 69, 29, 181, 194, 125, 106, 39, 249, 185, 201, 154, 9, 120, 77, 228, 114, 166, 6, 191, 139, 98, 102, 221, 48, 253, 226, 152, 37, 179, 16, 145, 34, 136, 54, 208, 148, 206, 143, 150, 219, 189, 241, 210, 19, 92, 131, 56, 70, 64, 30, 66, 182, 163, 195, 72, 126, 110, 107, 58, 40, 84, 250, 133, 186, 61, 202, 94, 155, 159, 10, 21, 121, 43, 78, 212, 229, 172, 115, 243, 167, 87, 7, 112, 192, 247, 140, 128, 99, 13, 103, 74, 222, 237, 49, 197, 254, 24, 227, 165, 153, 119, 38, 184, 180, 124, 17, 68, 146, 217, 35, 32, 137, 46, 55, 63, 209, 91, 149, 188, 207, 205, 144, 135, 151, 178, 220, 252, 190, 97, 242, 86, 211, 171, 20, 42, 93, 158, 132, 60, 57, 83, 71, 109, 65, 162, 31, 45, 67, 216, 183, 123, 164, 118, 196, 23, 73, 236, 127, 12, 111, 246, 108, 161, 59, 82, 41, 157, 85, 170, 251, 96, 134, 177, 187, 204, 62, 90, 203, 89, 95, 176, 156, 169, 160, 81, 11, 245, 22, 235, 122, 117, 44, 215, 79, 174, 213, 233, 230, 231, 173, 232, 116, 214, 244, 234, 168, 80, 88, 175]
def glog (a : Nat) : Nat := LOG.getD a 0
def gexp (n : Nat) : Nat := dbls n 1
def gmul (a b : Nat) : Nat := if a = 0 then 0 else dbls (glog a) b
def ginv (a : Nat) : Nat := if a = 0 then 0 else gexp (255 - glog a)
def chk1 : Bool := (List.range 256).all fun a => decide (dbl a < 256)
def chk2 : Bool := (List.range 256).all fun a => (List.range 256).all fun b => Nat.beq (dbl (a ^^^ b)) (dbl a ^^^ dbl b)
def chk3 : Bool := (List.range 254).all fun i => Nat.beq (dbl (EXP.getD i 0)) (EXP.getD (i + 1) 0)
def chk4 : Bool := (List.range 256).all fun a => Nat.blt (glog a) 255 && (Nat.beq a 0 || Nat.beq (EXP.getD (glog a) 0) a)
def chk5 : Bool := (List.range 255).all fun i => Nat.beq (glog (EXP.getD i 0)) i && Nat.blt 0 (EXP.getD i 0) && Nat.blt (EXP.getD i 0) 256
theorem chk1_ok : chk1 = true := by kernel_rfl
theorem chk2_ok : chk2 = true := by kernel_rfl
theorem chk3_ok : chk3 = true := by kernel_rfl
theorem chk4_ok : chk4 = true := by kernel_rfl
theorem chk5_ok : chk5 = true := by kernel_rfl
theorem all_range {n : Nat} {p : Nat → Bool} (h : (List.range n).all p = true) {i : Nat} (hi : i < n) : p i = true := List.all_eq_true.1 h i (List.mem_range.2 hi)
theorem dbl_lt {a : Nat} (h : a < 256) : dbl a < 256 := of_decide_eq_true (all_range chk1_ok h)
theorem dbl_xor {a b : Nat} (ha : a < 256) (hb : b < 256) : dbl (a ^^^ b) = dbl a ^^^ dbl b := Nat.eq_of_beq_eq_true (all_range (all_range chk2_ok ha) hb)
theorem xor_lt {a b : Nat} (ha : a < 256) (hb : b < 256) : a ^^^ b < 256 := Nat.xor_lt_two_pow (n := 8) ha hb
theorem dbls_lt {a : Nat} (h : a < 256) : ∀ n, dbls n a < 256
  | 0 => h
  | n + 1 => dbl_lt (dbls_lt h n)
theorem dbls_xor {a b : Nat} (ha : a < 256) (hb : b < 256) : ∀ n, dbls n (a ^^^ b) = dbls n a ^^^ dbls n b
  | 0 => rfl
  | n + 1 => by simp only [dbls]; rw [dbls_xor ha hb n, dbl_xor (dbls_lt ha n) (dbls_lt hb n)]
theorem dbls_zero : ∀ n, dbls n 0 = 0
  | 0 => rfl
  | n + 1 => by simp only [dbls]; rw [dbls_zero n]; rfl
theorem dbls_add (a : Nat) (m : Nat) : ∀ n, dbls (n + m) a = dbls n (dbls m a)
  | 0 => by rw [Nat.zero_add]; rfl
  | n + 1 => by rw [Nat.add_right_comm]; simp only [dbls]; rw [dbls_add a m n]
theorem gexp_tab : ∀ i, i < 255 → gexp i = EXP.getD i 0
  | 0, _ => rfl
  | i + 1, h => by
    have := Nat.eq_of_beq_eq_true (all_range chk3_ok (i := i) (by omega))
    rw [← this, ← gexp_tab i (by omega)]
    rfl
theorem gexp_lt (n : Nat) : gexp n < 256 := dbls_lt (by omega) n
theorem glog_lt {a : Nat} (h : a < 256) : glog a < 255 := by
  have := all_range chk4_ok h
  simp only [Bool.and_eq_true] at this
  exact Nat.blt_eq ▸ this.1
theorem gexp_glog {a : Nat} (h : a < 256) (h0 : a ≠ 0) : gexp (glog a) = a := by
  have := all_range chk4_ok h
  simp only [Bool.and_eq_true, Bool.or_eq_true] at this
  rw [gexp_tab _ (glog_lt h)]
  rcases this.2 with h | h
  · exact absurd (Nat.eq_of_beq_eq_true h) h0
  · exact Nat.eq_of_beq_eq_true h
theorem chk5_at {i : Nat} (h : i < 255) : glog (EXP.getD i 0) = i ∧ 0 < EXP.getD i 0 := by
  have := all_range chk5_ok h
  simp only [Bool.and_eq_true] at this
  exact ⟨Nat.eq_of_beq_eq_true this.1.1, Nat.blt_eq ▸ this.1.2⟩
theorem glog_gexp {i : Nat} (h : i < 255) : glog (gexp i) = i := by rw [gexp_tab i h]; exact (chk5_at h).1
theorem gexp_255 : gexp 255 = 1 := by
  have : gexp 255 = dbl (gexp 254) := rfl
  rw [this, gexp_tab 254 (by omega)]
  have e : dbl (EXP.getD 254 0) = 1 := by kernel_rfl
  exact e
theorem dbls_255 {a : Nat} (h : a < 256) : dbls 255 a = a := by
  by_cases h0 : a = 0
  · subst h0; exact dbls_zero _
  · have e := gexp_glog h h0
    have : dbls 255 (gexp (glog a)) = gexp (glog a) := by
      show dbls 255 (dbls (glog a) 1) = _
      rw [← dbls_add, Nat.add_comm, dbls_add]
      show dbls (glog a) (gexp 255) = _
      rw [gexp_255]
      rfl
    rwa [e] at this
theorem dbls_mod {a : Nat} (h : a < 256) (n : Nat) : dbls (n % 255) a = dbls n a := by
  have : ∀ q, dbls (n % 255 + 255 * q) a = dbls (n % 255) a := by
    intro q
    induction q with
    | zero => rfl
    | succ q ih => rw [Nat.mul_succ, ← Nat.add_assoc, dbls_add, dbls_255 h, ih]
  rw [← this (n / 255), Nat.mod_add_div]
theorem gexp_pos (n : Nat) : gexp n ≠ 0 := by
  have h : gexp (n % 255) = gexp n := dbls_mod (by omega) n
  have := (chk5_at (Nat.mod_lt n (by omega : 0 < 255))).2
  rw [← h, gexp_tab _ (Nat.mod_lt n (by omega))]
  omega
theorem glog_exp (n : Nat) : glog (gexp n) = n % 255 := by
  rw [← glog_gexp (Nat.mod_lt n (by omega : 0 < 255))]
  congr 1
  exact (dbls_mod (by omega) n).symm
theorem gmul_lt {a b : Nat} (hb : b < 256) : gmul a b < 256 := by unfold gmul; split; omega; exact dbls_lt hb _
theorem gmul_zero (a : Nat) : gmul a 0 = 0 := by unfold gmul; split; rfl; exact dbls_zero _
theorem zero_gmul (b : Nat) : gmul 0 b = 0 := rfl
theorem gmul_exp {a b : Nat} (ha : a < 256) (hb : b < 256) (ha0 : a ≠ 0) (hb0 : b ≠ 0) : gmul a b = gexp (glog a + glog b) := by
  unfold gmul
  rw [if_neg ha0]
  show _ = dbls (glog a + glog b) 1
  rw [dbls_add]
  show _ = dbls (glog a) (gexp (glog b))
  rw [gexp_glog hb hb0]
theorem gmul_comm {a b : Nat} (ha : a < 256) (hb : b < 256) : gmul a b = gmul b a := by
  by_cases ha0 : a = 0
  · subst ha0; rw [zero_gmul, gmul_zero]
  · by_cases hb0 : b = 0
    · subst hb0; rw [zero_gmul, gmul_zero]
    · rw [gmul_exp ha hb ha0 hb0, gmul_exp hb ha hb0 ha0, Nat.add_comm]
theorem gmul_xor {a b c : Nat} (hb : b < 256) (hc : c < 256) : gmul a (b ^^^ c) = gmul a b ^^^ gmul a c := by
  unfold gmul
  split
  · rfl
  · exact dbls_xor hb hc _
theorem gmul_assoc {a b c : Nat} (ha : a < 256) (hb : b < 256) (hc : c < 256) : gmul a (gmul b c) = gmul (gmul a b) c := by
  by_cases ha0 : a = 0
  · subst ha0; rfl
  · by_cases hb0 : b = 0
    · subst hb0; rw [gmul_zero]; exact gmul_zero a
    · have hab : gmul a b ≠ 0 := by rw [gmul_exp ha hb ha0 hb0]; exact gexp_pos _
      have e1 : gmul (gmul a b) c = dbls (glog (gmul a b)) c := if_neg hab
      have e2 : gmul a (gmul b c) = dbls (glog a) (dbls (glog b) c) := by unfold gmul; rw [if_neg ha0, if_neg hb0]
      rw [e1, e2, gmul_exp ha hb ha0 hb0, glog_exp, dbls_mod hc, dbls_add]
theorem one_gmul {b : Nat} : gmul 1 b = b := by
  unfold gmul
  rw [if_neg (by omega)]
  have : glog 1 = 0 := by kernel_rfl
  rw [this]
  rfl
theorem ginv_lt (a : Nat) : ginv a < 256 := by unfold ginv; split; omega; exact gexp_lt _
theorem gmul_inv {a : Nat} (h : a < 256) (h0 : a ≠ 0) : gmul a (ginv a) = 1 := by
  have hl := glog_lt h
  have : gmul a (ginv a) = dbls (glog a) (gexp (255 - glog a)) := by unfold gmul ginv; rw [if_neg h0, if_neg h0]
  rw [this]
  show dbls (glog a) (dbls (255 - glog a) 1) = 1
  rw [← dbls_add, show glog a + (255 - glog a) = 255 by omega]
  exact gexp_255
/-- The document's own product. -/
def pmul : Nat → Nat → Nat → Nat
  | 0, _, _ => 0
  | n + 1, x, y => (if y % 2 = 1 then x else 0) ^^^ pmul n (dbl x) (y / 2)
theorem pmul_gmul : ∀ n x y, n ≤ 8 → x < 256 → y < 2 ^ n → pmul n x y = gmul x y
  | 0, x, y, _, _, hy => by
    have : y = 0 := by simpa using hy
    subst this
    exact (gmul_zero x).symm
  | n + 1, x, y, hn, hx, hy => by
    have h2 : y / 2 < 2 ^ n := by rw [Nat.pow_succ] at hy; omega
    have hp : 2 ^ n ≤ 2 ^ 7 := Nat.pow_le_pow_right (by omega) (by omega)
    have h128 : y / 2 < 128 := by omega
    have ih := pmul_gmul n (dbl x) (y / 2) (by omega) (dbl_lt hx) h2
    simp only [pmul]
    rw [ih]
    have hy256 : y < 256 := by omega
    have hdy : dbl (y / 2) = 2 * (y / 2) := by unfold dbl; rw [if_pos h128]
    have hsplit : y = (y % 2) ^^^ (2 * (y / 2)) := by
      have h1 : y % 2 < 2 := Nat.mod_lt _ (by omega)
      rw [Nat.xor_comm]
      have := Nat.two_pow_add_eq_or_of_lt (i := 1) (b := y % 2) h1 (y / 2)
      have hx2 : 2 * (y / 2) ^^^ y % 2 = 2 * (y / 2) + y % 2 := by
        apply Nat.eq_of_testBit_eq
        intro i
        cases i with
        | zero => simp [Nat.testBit_zero]
        | succ i =>
          rw [Nat.testBit_xor, Nat.testBit_succ, Nat.testBit_succ, Nat.testBit_succ]
          have e1 : 2 * (y / 2) / 2 = y / 2 := by omega
          have e2 : y % 2 / 2 = 0 := by omega
          have e3 : (2 * (y / 2) + y % 2) / 2 = y / 2 := by omega
          rw [e1, e2, e3]
          simp
      rw [hx2]
      omega
    have hg : gmul x y = gmul x (y % 2) ^^^ gmul x (2 * (y / 2)) := by
      conv => lhs; rw [hsplit]
      exact gmul_xor (by omega) (by omega)
    rw [hg]
    congr 1
    · split
      · rename_i h1
        rw [h1, gmul_comm hx (by omega), one_gmul]
      · rename_i h1
        have : y % 2 = 0 := by omega
        rw [this, gmul_zero]
    · rw [← hdy, gmul_comm (dbl_lt hx) (by omega), gmul_comm hx (by rw [hdy]; omega)]
      -- gmul z (dbl x) = gmul (dbl z) x
      by_cases hz : y / 2 = 0
      · rw [hz]; rfl
      · by_cases hx0 : x = 0
        · subst hx0
          rw [gmul_zero]
          show gmul (y / 2) 0 = 0
          exact gmul_zero _
        · have hd0 : dbl (y / 2) ≠ 0 := by rw [hdy]; omega
          have e1 : gmul (y / 2) (dbl x) = dbl (gmul (y / 2) x) := by
            unfold gmul
            rw [if_neg hz, if_neg hz]
            have := dbls_add x 1 (glog (y / 2))
            have h2 := dbls_add x (glog (y / 2)) 1
            rw [Nat.add_comm] at h2
            exact this.symm.trans h2
          rw [e1, gmul_comm (by omega) hx, gmul_comm (by rw [hdy]; omega) hx]
          unfold gmul
          rw [if_neg hx0, if_neg hx0]
          have h1 := dbls_add (y / 2) 1 (glog x)
          have h2 := dbls_add (y / 2) (glog x) 1
          rw [Nat.add_comm] at h2
          exact (h1.symm.trans h2).symm

/-! ## The same on bytes -/
def umul (a b : UInt8) : UInt8 := UInt8.ofNat (gmul a.toNat b.toNat)
def uinv (a : UInt8) : UInt8 := UInt8.ofNat (ginv a.toNat)
theorem u_lt (a : UInt8) : a.toNat < 256 := a.toNat_lt
theorem u_of {n : Nat} (h : n < 256) : (UInt8.ofNat n).toNat = n := by rw [UInt8.toNat_ofNat']; exact Nat.mod_eq_of_lt h
theorem umul_val (a b : UInt8) : (umul a b).toNat = gmul a.toNat b.toNat := u_of (gmul_lt (u_lt b))
theorem uinv_val (a : UInt8) : (uinv a).toNat = ginv a.toNat := u_of (ginv_lt _)
theorem umul_comm (a b : UInt8) : umul a b = umul b a := UInt8.toNat_inj.1 (by rw [umul_val, umul_val, gmul_comm (u_lt a) (u_lt b)])
theorem umul_xor (a b c : UInt8) : umul a (b ^^^ c) = umul a b ^^^ umul a c := UInt8.toNat_inj.1 (by rw [umul_val, UInt8.toNat_xor, UInt8.toNat_xor, umul_val, umul_val, gmul_xor (u_lt b) (u_lt c)])
theorem xor_umul (a b c : UInt8) : umul (a ^^^ b) c = umul a c ^^^ umul b c := by rw [umul_comm, umul_xor, umul_comm a, umul_comm b]
theorem umul_assoc (a b c : UInt8) : umul a (umul b c) = umul (umul a b) c := UInt8.toNat_inj.1 (by rw [umul_val, umul_val, umul_val, umul_val, gmul_assoc (u_lt a) (u_lt b) (u_lt c)])
theorem one_umul (a : UInt8) : umul 1 a = a := UInt8.toNat_inj.1 (by rw [umul_val]; exact one_gmul)
theorem umul_one (a : UInt8) : umul a 1 = a := by rw [umul_comm, one_umul]
theorem zero_umul (a : UInt8) : umul 0 a = 0 := UInt8.toNat_inj.1 (by rw [umul_val]; exact zero_gmul _)
theorem umul_zero (a : UInt8) : umul a 0 = 0 := by rw [umul_comm, zero_umul]
theorem umul_inv {a : UInt8} (h : a ≠ 0) : umul a (uinv a) = 1 := UInt8.toNat_inj.1 (by
  rw [umul_val, uinv_val]
  exact gmul_inv (u_lt a) (fun e => h (UInt8.toNat_inj.1 e)))
theorem xor_self8 (a : UInt8) : a ^^^ a = 0 := UInt8.toNat_inj.1 (by rw [UInt8.toNat_xor, Nat.xor_self]; rfl)
theorem xor_zero8 (a : UInt8) : a ^^^ 0 = a := UInt8.toNat_inj.1 (by rw [UInt8.toNat_xor]; exact Nat.xor_zero _)
theorem zero_xor8 (a : UInt8) : 0 ^^^ a = a := UInt8.toNat_inj.1 (by rw [UInt8.toNat_xor]; exact Nat.zero_xor _)
theorem xor_comm8 (a b : UInt8) : a ^^^ b = b ^^^ a := UInt8.toNat_inj.1 (by rw [UInt8.toNat_xor, UInt8.toNat_xor, Nat.xor_comm])
theorem xor_assoc8 (a b c : UInt8) : a ^^^ b ^^^ c = a ^^^ (b ^^^ c) := UInt8.toNat_inj.1 (by simp only [UInt8.toNat_xor, Nat.xor_assoc])
theorem xor_eq_zero8 {a b : UInt8} : a ^^^ b = 0 ↔ a = b := by
  constructor
  · intro h
    have : a ^^^ b ^^^ b = 0 ^^^ b := by rw [h]
    rwa [xor_assoc8, xor_self8, xor_zero8, zero_xor8] at this
  · intro h; rw [h, xor_self8]
theorem umul_eq_zero {a b : UInt8} (ha : a ≠ 0) (h : umul a b = 0) : b = 0 := by
  have : umul (uinv a) (umul a b) = b := by rw [umul_assoc, umul_comm (uinv a), umul_inv ha, one_umul]
  rw [← this, h, umul_zero]
end Go.X
