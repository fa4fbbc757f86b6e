import Derived.Test.YtclojjiiiejfpaaDoorXgGram6
namespace Go.Proofs.YtclojjiiiejfpaaDoor
set_option linter.unusedSimpArgs false
set_option linter.unusedVariables false
set_option maxRecDepth 100000
attribute [local irreducible] Go.X.xE
open Go Go.X

/-- A slice whose block, if it has one, is B or a later one. -/
def Fr (B : Nat) (v : Value) : Prop := ∀ b o n c, v = .slice (some ⟨b, o, none⟩) n c → B ≤ b
theorem Fr.nil (B : Nat) : Fr B (.slice none 0 0) := fun _ _ _ _ h => by cases h
theorem Fr.mono {B B' : Nat} {v : Value} (h : Fr B v) (hb : B' ≤ B) : Fr B' v := fun b o n c e => Nat.le_trans hb (h b o n c e)
theorem IsV.kept {w w' : World} {M : List Nat} {B : Nat} {x : RawV} {v : GVl} (h : IsV w x v) (hf : Fr B x.lv) (hk : Kept M w w') (hM : ∀ k ∈ M, k < B) : IsV w' x v :=
  ⟨h.1, h.2.1, h.2.2.kept hk (fun b o n c he hb => by have := hf b o n c he; have := hM b hb; omega)⟩
theorem SlT.keptNew {α : Type} {enc : α → List Value} {w w' w'' : World} {v : Value} {l : List α} {M : List Nat} (h : SlT w enc v l) (h' : SlT w' enc v l) (hk : Kept M w' w'') (hM : ∀ k ∈ M, w.heap.size ≤ k) : SlT w'' enc v l := by
  obtain ⟨a, c, rfl, hc, hr⟩ := h
  obtain ⟨a', c', hv, hc', hr'⟩ := h'
  cases hv
  refine ⟨a, c, rfl, hc, ?_⟩
  rcases hr with hr | ⟨bb, o, rfl, hat⟩
  · exact .inl hr
  · rcases hr' with hr' | ⟨bb', o', he, hat'⟩
    · exact .inl hr'
    · cases he
      refine .inr ⟨bb, o, rfl, ?_⟩
      by_cases hn : l.flatMap enc = []
      · rw [hn]; exact At.nil _ _ _
      · refine hat'.kept hk (fun hm => ?_)
        have h1 := hM bb hm
        have hpos : 0 < (l.flatMap enc).length := List.length_pos_iff.2 hn
        have hcell := hat 0 hpos
        rw [List.getElem?_eq_getElem hpos] at hcell
        have hlt : bb < w.heap.size := by simpa using block_lt_of_cell hcell
        omega
theorem Cur.keptNew {w w' w'' : World} {c : Nat} {bv : Value} {b : List UInt8} {at0 at_ : Nat} {bad0 bad : Int} {M : List Nat} (h0 : Cur w c bv b at0 bad0) (h : Cur w' c bv b at_ bad) (hk : Kept M w' w'') (hM : ∀ k ∈ M, w.heap.size ≤ k) : Cur w'' c bv b at_ bad :=
  ⟨h.blk.kept hk (fun hm => by have := hM c hm; have := h0.lt; omega), SlT.keptNew h0.row h.row hk hM, h.le, h.small, h.off⟩
/-- Its block is there. -/
def Lt (E : Nat) (v : Value) : Prop := ∀ b o n c, v = .slice (some ⟨b, o, none⟩) n c → b < E
theorem Lt.nil (E : Nat) : Lt E (.slice none 0 0) := fun _ _ _ _ h => by cases h
theorem Lt.mono {E E' : Nat} {v : Value} (h : Lt E v) (he : E ≤ E') : Lt E' v := fun b o n c e => Nat.lt_of_lt_of_le (h b o n c e) he
def Off (F : List Nat) (v : Value) : Prop := ∀ b o n c, v = .slice (some ⟨b, o, none⟩) n c → b ∉ F
theorem IsV.keptOff {w w' : World} {M : List Nat} {x : RawV} {v : GVl} (h : IsV w x v) (hf : Off M x.lv) (hk : Kept M w w') : IsV w' x v :=
  ⟨h.1, h.2.1, h.2.2.kept hk (fun b o n c he => hf b o n c he)⟩
def rawZero : RawV := ⟨0, strEmpty, .slice none 0 0⟩
def ValPost (r : Except Int (GVl × List UInt8)) (c : Nat) (bv : Value) (b : List UInt8) (w : World) (u : Value) (w' : World) : Prop := Kept [c] w w' ∧ ∃ x, u = vV x ∧ x.lv.oneCell' = true ∧ match r with
  | .ok (v, rest) => IsV w' x v ∧ Fr w.heap.size x.lv ∧ Lt w'.heap.size x.lv ∧ ∃ at', rest = b.drop at' ∧ Cur w' c bv b at' 0
  | .error e => e ≠ 0 ∧ ∃ at', Cur w' c bv b at' e
theorem right_kind {f : GFd} (h : f.right = true) : (f.kind = 1 ∨ f.kind = 2 ∨ f.kind = 3) ∧ 0 ≤ f.lo ∧ f.lo ≤ f.hi ∧ (f.kind = 3 → 0 ≤ f.most ∧ f.most ≤ 65535) := by
  unfold GFd.right at h
  by_cases h1 : f.kind = 1
  · simp [h1] at h; omega
  · by_cases h3 : f.kind = 3
    · simp [h3] at h; omega
    · by_cases h2 : f.kind = 2
      · simp [h2] at h; omega
      · simp [h1, h2, h3] at h
theorem pTexts_ok {most : Int} : ∀ {k : Nat} {r r' : List UInt8} {l : List ByteArray}, pTexts most k r = .ok (l, r') → l.length = k
  | 0, _, _, _, h => by cases h; rfl
  | k + 1, r, r', l, h => by
    unfold pTexts at h
    split at h
    · cases h
    · split at h
      · cases h
      · rename_i h2
        cases h
        simp [pTexts_ok h2]

theorem value_ok {f : GFd} {c : Nat} {bv : Value} {b : List UInt8} {at_ : Nat} {w : World} (h : Cur w c bv b at_ 0) (hr : f.right = true) (hhi : f.hi ≤ 9223372036854775807) :
    Gives Tryd.prog 44 #[.pointer (some ⟨c, 0, none⟩), vF f] w fun u w' => ValPost (f.pVal (b.drop at_)) c bv b w u w' := by
  obtain ⟨hkind, hlo, hlh, hmost⟩ := right_kind hr
  refine C_gram_cursor_value ?_
  unfold S_gram_cursor_value
  refine xE_box fun w1 hb1 hk1 hz1 => ?_
  refine xE_alloc Z_32 fun w2 hb2 hk2 hz2 => ?_
  refine xE_alloc Z_32 fun w3 hb3 hk3 hz3 => ?_
  have hc := h.lt
  have hk03 : Kept [] w w3 := (hk1.then hk2 (by simp)).then hk3 (by simp)
  have h3 := h.kept hk03
  have hb1' := (hb1.kept hk2 (by simp)).kept hk3 (by simp)
  have hb2' := hb2.kept hk3 (by simp)
  have hb3' : Blk w3 w2.heap.size 32 (encV rawZero) := hb3
  have hb2'' : Blk w3 w1.heap.size 32 (encV rawZero) := hb2'
  generalize eB : w.heap.size = B at *
  generalize eB1 : w1.heap.size = B1 at *
  generalize eB2 : w2.heap.size = B2 at *
  obtain ⟨L0, L1, L2, L3, L4, L5⟩ := ldF (f := f) hb1'
  refine xJoin_of (fun _ w' => Kept [c] w w' ∧ Blk w' B1 32 (encV rawZero) ∧ ∃ x, Blk w' B2 32 (encV x) ∧ x.lv.oneCell' = true ∧ match f.pVal (b.drop at_) with
    | .ok (v, rest) => IsV w' x v ∧ Fr (B2 + 1) x.lv ∧ Lt w'.heap.size x.lv ∧ ∃ at', rest = b.drop at' ∧ Cur w' c bv b at' 0
    | .error e => e ≠ 0 ∧ ∃ at', Cur w' c bv b at' e) ?_ ?_
  · rcases hkind with h1 | h2 | h3k
    · obtain ⟨k, hk8, hks⟩ : ∃ k : Nat, k ≤ 8 ∧ f.size = k := by
        rcases right_size hr h1 with h | h | h | h <;> exact ⟨f.size.toNat, by omega, by omega⟩
      simp only [xP_nil, xP_pick, xP_func, xP_not, xP_add, xP_sub, xP_mul, xP_lss, xP_leq, xP_gtr, xP_geq, xP_max2, xP_min2, xR_eql, xR_neq, Nat.zero_add, Nat.add_zero, Nat.reduceAdd, List.getD_cons_zero, List.getD_cons_succ, xIf_true, xIf_false, FA_23_0, FA_23_1, FA_23_2, FA_23_3, FA_23_4, FA_32_0, FA_32_1, FA_32_2, FA_63_0, FA_63_1, FA_63_2, FA_63_3, FA_80_0, FA_80_1, FA_80_2, FA_85_0, FA_85_1, FA_85_2, LEN_24, LEN_25, LEN_30, LEN_33, LEN_58, LEN_82, LEN_134, L0, L1, L2, L3, h1, hks, decide_true]
      refine xE_call CF_65 ((num_ok h3 hk8 hlo hlh hhi).mono fun _ _ => num_cur) ?_
      rintro u w4 ⟨hk4, hp⟩
      have ev : f.pVal (b.drop at_) = match pNum k f.lo f.hi (b.drop at_) with | .error e => .error e | .ok (n, r') => .ok (⟨n, strEmpty, []⟩, r') := by
        unfold GFd.pVal
        rw [if_pos h1, hks, Int.toNat_natCast]
        cases pNum k f.lo f.hi (b.drop at_) <;> rfl
      have hb34 := hb3'.kept hk4 (by simp; omega)
      have hb24 := hb2''.kept hk4 (by simp; omega)
      have hk04 : Kept [c] w w4 := (hk03.mono (by simp)).then hk4 (by simp)
      obtain ⟨n, rfl⟩ : ∃ n, u = .int .i64 n := by
        cases hn : pNum k f.lo f.hi (b.drop at_) <;> rw [hn] at hp <;> exact ⟨_, hp.1⟩
      refine xE_store1 SZ_3 hb34 (by simp [encV, rawZero]) rfl fun w5 hb5 hk5 hz5 => ?_
      refine ⟨hk04.then hk5 (by simp; omega), hb24.kept hk5 (by simp; omega), ⟨n, strEmpty, .slice none 0 0⟩, by simpa [encV, rawZero] using hb5, rfl, ?_⟩
      rw [ev]
      have hcur : ∀ {at' : Nat} {e : Int}, Cur w4 c bv b at' e → Cur w5 c bv b at' e := fun h4 => h.keptNew h4 hk5 (by simp; omega)
      cases hn : pNum k f.lo f.hi (b.drop at_) with
      | error e =>
        rw [hn] at hp
        exact ⟨hp.2.1, hp.2.2.imp fun at' h => hcur h⟩
      | ok q =>
        obtain ⟨m, r⟩ := q
        rw [hn] at hp
        obtain ⟨hu, at', hr', h4⟩ := hp
        cases hu
        exact ⟨⟨rfl, rfl, none, 0, rfl, by simp, .inl rfl⟩, Fr.nil _, Lt.nil _, at', hr', hcur h4⟩
    · simp only [xP_nil, xP_pick, xP_func, xP_not, xP_add, xP_sub, xP_mul, xP_lss, xP_leq, xP_gtr, xP_geq, xP_max2, xP_min2, xR_eql, xR_neq, Nat.zero_add, Nat.add_zero, Nat.reduceAdd, List.getD_cons_zero, List.getD_cons_succ, xIf_true, xIf_false, FA_23_0, FA_23_1, FA_23_2, FA_23_3, FA_23_4, FA_32_0, FA_32_1, FA_32_2, FA_63_0, FA_63_1, FA_63_2, FA_63_3, FA_80_0, FA_80_1, FA_80_2, FA_85_0, FA_85_1, FA_85_2, LEN_24, LEN_25, LEN_30, LEN_33, LEN_58, LEN_82, LEN_134, L0, L1, L2, L3, h2, show decide ((2 : Int) = 1) = false from rfl, decide_true]
      refine xE_call CF_66 (text_ok h3 hlo hlh hhi) ?_
      rintro u w4 ⟨hk4, hp⟩
      have ev : f.pVal (b.drop at_) = match pText f.lo f.hi (b.drop at_) with | .error e => .error e | .ok (s, r') => .ok (⟨0, s, []⟩, r') := by
        unfold GFd.pVal
        rw [if_neg (by omega), if_pos h2]
        cases pText f.lo f.hi (b.drop at_) <;> rfl
      have hb34 := hb3'.kept hk4 (by simp; omega)
      have hb24 := hb2''.kept hk4 (by simp; omega)
      have hk04 : Kept [c] w w4 := (hk03.mono (by simp)).then hk4 (by simp)
      obtain ⟨s, rfl⟩ : ∃ s, u = .string s := by
        cases hn : pText f.lo f.hi (b.drop at_) <;> rw [hn] at hp <;> exact ⟨_, hp.1⟩
      refine xE_store1 SZ_9 hb34 (by simp [encV, rawZero]) rfl fun w5 hb5 hk5 hz5 => ?_
      refine ⟨hk04.then hk5 (by simp; omega), hb24.kept hk5 (by simp; omega), ⟨0, s, .slice none 0 0⟩, by simpa [encV, rawZero] using hb5, rfl, ?_⟩
      rw [ev]
      have hcur : ∀ {at' : Nat} {e : Int}, Cur w4 c bv b at' e → Cur w5 c bv b at' e := fun h4 => h.keptNew h4 hk5 (by simp; omega)
      cases hn : pText f.lo f.hi (b.drop at_) with
      | error e =>
        rw [hn] at hp
        exact ⟨hp.2.1, hp.2.2.imp fun at' h => hcur h⟩
      | ok q =>
        obtain ⟨m, r⟩ := q
        rw [hn] at hp
        obtain ⟨hu, at', hr', h4⟩ := hp
        cases hu
        exact ⟨⟨rfl, rfl, none, 0, rfl, by simp, .inl rfl⟩, Fr.nil _, Lt.nil _, at', hr', hcur h4⟩
    · obtain ⟨hm0, hm1⟩ := hmost h3k
      simp only [xP_nil, xP_pick, xP_func, xP_not, xP_add, xP_sub, xP_mul, xP_lss, xP_leq, xP_gtr, xP_geq, xP_max2, xP_min2, xR_eql, xR_neq, Nat.zero_add, Nat.add_zero, Nat.reduceAdd, List.getD_cons_zero, List.getD_cons_succ, xIf_true, xIf_false, FA_23_0, FA_23_1, FA_23_2, FA_23_3, FA_23_4, FA_32_0, FA_32_1, FA_32_2, FA_63_0, FA_63_1, FA_63_2, FA_63_3, FA_80_0, FA_80_1, FA_80_2, FA_85_0, FA_85_1, FA_85_2, LEN_24, LEN_25, LEN_30, LEN_33, LEN_58, LEN_82, LEN_134, L0, L1, L2, L3, h3k, show decide ((3 : Int) = 1) = false from rfl, show decide ((3 : Int) = 2) = false from rfl, decide_true]
      refine xE_call CF_65 ((num_ok (size := 1) h3 (by omega) hlo hlh hhi).mono fun _ _ => num_cur) ?_
      rintro u w4 ⟨hk4, hp⟩
      have hb14 := hb1'.kept hk4 (by simp; omega)
      have hb34 := hb3'.kept hk4 (by simp; omega)
      have hb24 := hb2''.kept hk4 (by simp; omega)
      have hk04 : Kept [c] w w4 := (hk03.mono (by simp)).then hk4 (by simp)
      have ev : f.pVal (b.drop at_) = match pNum 1 f.lo f.hi (b.drop at_) with | .error e => .error e | .ok (k, r') => match pTexts f.most k.toNat r' with | .error e => .error e | .ok (l, r'') => .ok (⟨0, strEmpty, l⟩, r'') := by
        unfold GFd.pVal
        rw [if_neg (by omega), if_neg (by omega)]
        cases pNum 1 f.lo f.hi (b.drop at_) with
        | error e => rfl
        | ok q =>
          simp only
          cases pTexts f.most q.1.toNat q.2 <;> rfl
      obtain ⟨k, rfl, hk255⟩ : ∃ k : Nat, u = .int .i64 k ∧ k ≤ 255 := by
        cases hn : pNum 1 f.lo f.hi (b.drop at_) with
        | error e => rw [hn] at hp; exact ⟨0, hp.1, by omega⟩
        | ok q =>
          obtain ⟨m, r⟩ := q
          rw [hn] at hp
          obtain ⟨e1, -, -, -, -⟩ := pNum_ok hn
          have := leNat_lt ((b.drop at_).take 1)
          have hl1 : ((b.drop at_).take 1).length ≤ 1 := by rw [List.length_take]; omega
          have : leNat ((b.drop at_).take 1) < 256 := Nat.lt_of_lt_of_le this (Nat.le_trans (Nat.pow_le_pow_right (by omega) hl1) (by omega))
          exact ⟨leNat ((b.drop at_).take 1), by rw [hp.1, e1], by omega⟩
      refine xLoop_of (fun vs w' => ∃ (i : Nat) (L : List ByteArray) (lv : Value) (F : List Nat), vs = [.int .i64 i] ∧ i ≤ k ∧ L.length = i ∧ Own w' 9 1 lv i (L.flatMap encS) F ∧ (∀ g ∈ F, B2 + 1 ≤ g) ∧ lv.oneCell' = true ∧
          Blk w' B 23 (encF f) ∧ Blk w' B1 32 (encV rawZero) ∧ Blk w' B2 32 (encV ⟨0, strEmpty, lv⟩) ∧ Kept [c] w w' ∧ B2 + 1 ≤ w'.heap.size ∧
          ((∃ at', Cur w' c bv b at' 0 ∧ f.pVal (b.drop at_) = match pTexts f.most (k - i) (b.drop at') with | .error e => .error e | .ok (l, r'') => .ok (⟨0, strEmpty, L ++ l⟩, r'')) ∨ (∃ e at', e ≠ 0 ∧ Cur w' c bv b at' e ∧ f.pVal (b.drop at_) = .error e)))
        (fun vs _ => match vs with | [.int _ i] => k - i.toNat | _ => 0) ⟨0, [], .slice none 0 0, [], rfl, by omega, rfl, own_nil _ _ _, by simp, rfl, hb14, hb24, hb34, hk04, by have := hk4.size; omega, ?_⟩ ?_
      · rw [ev]
        cases hn : pNum 1 f.lo f.hi (b.drop at_) with
        | error e =>
          rw [hn] at hp
          obtain ⟨_, he, at', h4⟩ := hp
          exact .inr ⟨e, at', he, h4, rfl⟩
        | ok q =>
          obtain ⟨m, r⟩ := q
          rw [hn] at hp
          obtain ⟨hu, at', hr', h4⟩ := hp
          cases hu
          refine .inl ⟨at', h4, ?_⟩
          rw [hr']
          simp only [Int.toNat_natCast, Nat.sub_zero, List.nil_append]
      rintro _ _ w5 ⟨i, L, lv, F, rfl, hik, hL, ho, hF, hone, q1, q2, q3, hk5, hz5, hst⟩
      simp only [xP_nil, xP_pick, xP_func, xP_not, xP_add, xP_sub, xP_mul, xP_lss, xP_leq, xP_gtr, xP_geq, xP_max2, xP_min2, xR_eql, xR_neq, Nat.zero_add, Nat.add_zero, Nat.reduceAdd, List.getD_cons_zero, List.getD_cons_succ, xIf_true, xIf_false, FA_23_0, FA_23_1, FA_23_2, FA_23_3, FA_23_4, FA_32_0, FA_32_1, FA_32_2, FA_63_0, FA_63_1, FA_63_2, FA_63_3, FA_80_0, FA_80_1, FA_80_2, FA_85_0, FA_85_1, FA_85_2, LEN_24, LEN_25, LEN_30, LEN_33, LEN_58, LEN_82, LEN_134, xIf_dec]
      refine ⟨fun hlt => ?_, fun hge => ?_⟩
      · have hlt' : i < k := by omega
        obtain ⟨M0, M1, M2, M3, M4, M5⟩ := ldF (blk_drew q1)
        obtain ⟨N0, N1, N2, N3⟩ := ldV (x := ⟨0, strEmpty, lv⟩) (blk_drew q3)
        simp only [N2, M4]
        -- a text is read: it, or nothing
        refine xE_call (Q := fun u w' => ∃ s : ByteArray, u = .string s ∧ Kept [c] w5.drew w' ∧ ((∃ at', Cur w' c bv b at' 0 ∧ f.pVal (b.drop at_) = match pTexts f.most (k - (i + 1)) (b.drop at') with | .error e => .error e | .ok (l, r'') => .ok (⟨0, strEmpty, (L ++ [s]) ++ l⟩, r'')) ∨ (∃ e at', e ≠ 0 ∧ Cur w' c bv b at' e ∧ f.pVal (b.drop at_) = .error e))) CF_66 ?_ ?_
        · rcases hst with ⟨at', h5, he⟩ | ⟨e, at', he0, h5, he⟩
          · refine (text_ok (h5.kept keptd) (Int.le_refl 0) hm0 (by omega)).mono fun u w' ⟨hk, hp⟩ => ?_
            rw [show k - i = (k - (i + 1)) + 1 by omega] at he
            unfold pTexts at he
            cases ht : pText 0 f.most (b.drop at') with
            | error e =>
              rw [ht] at hp he
              exact ⟨strEmpty, hp.1, hk, .inr ⟨e, hp.2.2.choose, hp.2.1, hp.2.2.choose_spec, he⟩⟩
            | ok q =>
              obtain ⟨s, r⟩ := q
              rw [ht] at hp he
              obtain ⟨hu, at2, hr2, h6⟩ := hp
              refine ⟨s, hu, hk, .inl ⟨at2, h6, ?_⟩⟩
              rw [he, hr2]
              simp only
              cases pTexts f.most (k - (i + 1)) (b.drop at2) with
              | error e => rfl
              | ok q => simp
          · refine (textBad_ok (h5.kept keptd) he0).mono fun u w' ⟨hu, hk, h6⟩ => ?_
            exact ⟨strEmpty, hu, hk, .inr ⟨e, at', he0, h6, he⟩⟩
        rintro _ w6 ⟨s, rfl, hk6, hst6⟩
        have p1 := (blk_drew q1).kept hk6 (by simp; omega)
        have p2 := (blk_drew q2).kept hk6 (by simp; omega)
        have p3 := (blk_drew q3).kept hk6 (by simp; omega)
        have hz6 := hk6.size
        have hz56 : w5.heap.size ≤ w6.heap.size := hz6
        have ho6 : Own w6 9 1 lv i (L.flatMap encS) F := (ho.kept keptd (by simp)).kept hk6 (fun g hg hm => by have := hF g hg; simp at hm; omega)
        refine (still1 ONE_30 (v := lv) (p3.cell (o := 2))).2 ?_
        refine xE_buildSlice EL_30 [.string s] rfl rfl (by simp [Value.cells]) (by omega) (by omega) fun w7 hb7 hk7 hz7 => ?_
        refine (still1 ONE_30 (v := lv) ((p3.kept hk7 (by simp)).cell (o := 2))).2 ?_
        have hat : At w7 w6.heap.size 0 ([s].flatMap encS) := hb7.at
        refine xE_append (m := 1) EL_30 (ho6.kept hk7 (by simp)) hat rfl (by simp [encS]; rfl) (by omega) (by unfold maxLen; omega) (by omega) fun lv' w8 F' ho' hk8 hF' hone' => ?_
        have hz8 := hk8.size
        have p1' := (p1.kept hk7 (by simp)).kept hk8 (fun hm => by have := hF _ hm; omega)
        have p2' := (p2.kept hk7 (by simp)).kept hk8 (fun hm => by have := hF _ hm; omega)
        have p3' := (p3.kept hk7 (by simp)).kept hk8 (fun hm => by have := hF _ hm; omega)
        try simp only [xP_nil, xP_pick, xP_func, xP_not, xP_add, xP_sub, xP_mul, xP_lss, xP_leq, xP_gtr, xP_geq, xP_max2, xP_min2, xR_eql, xR_neq, Nat.zero_add, Nat.add_zero, Nat.reduceAdd, List.getD_cons_zero, List.getD_cons_succ, xIf_true, xIf_false, FA_23_0, FA_23_1, FA_23_2, FA_23_3, FA_23_4, FA_32_0, FA_32_1, FA_32_2, FA_63_0, FA_63_1, FA_63_2, FA_63_3, FA_80_0, FA_80_1, FA_80_2, FA_85_0, FA_85_1, FA_85_2, LEN_24, LEN_25, LEN_30, LEN_33, LEN_58, LEN_82, LEN_134]
        refine xE_store1 SZ_30 p3' (by simp [encV]) hone' fun w9 hb9 hk9 hz9 => ?_
        rw [wrap64 (by omega) (by omega)]
        have hF2 : ∀ g ∈ F', B2 + 1 ≤ g := fun g hg => (hF' g hg).elim (hF g) (fun h => by omega)
        have hcur : ∀ {at' : Nat} {e : Int}, Cur w6 c bv b at' e → Cur w9 c bv b at' e := fun h6 =>
          h.keptNew (h.keptNew (h6.kept hk7) hk8 (fun g hg => by have := hF g hg; omega)) hk9 (by simp; omega)
        have hk09 : Kept [c] w w9 := ((((hk5.then (keptd.mono (N := [c]) (by simp)) (by simp)).then hk6 (by simp)).then hk7 (by simp)).then hk8 (fun g hg => .inr (by have := hF g hg; omega))).then hk9 (by simp; omega)
        refine ⟨⟨i + 1, L ++ [s], lv', F', rfl, hlt', by simp [hL], ?_, hF2, hone', p1'.kept hk9 (by simp; omega), p2'.kept hk9 (by simp; omega), by simpa [encV] using hb9, hk09, by have := hk7.size; omega, ?_⟩, by omega⟩
        · rw [List.flatMap_append]
          exact ho'.kept hk9 (fun g hg hm => by have := hF2 g hg; simp at hm; omega)
        · rcases hst6 with ⟨at', h6, he⟩ | ⟨e, at', he0, h6, he⟩
          · exact .inl ⟨at', hcur h6, he⟩
          · exact .inr ⟨e, at', he0, hcur h6, he⟩
      · obtain rfl : i = k := by omega
        refine ⟨hk5, q2, ⟨0, strEmpty, lv⟩, q3, hone, ?_⟩
        rcases hst with ⟨at', h5, he⟩ | ⟨e, at', he0, h5, he⟩
        · rw [Nat.sub_self] at he
          unfold pTexts at he
          rw [he]
          subst hL
          refine ⟨⟨rfl, rfl, by simpa using ho.slT encS_len (by omega)⟩, fun bb o n cc hv => hF _ (ho.addr bb o n cc hv), fun bb o n cc hv => ho.lt _ (ho.addr bb o n cc hv), at', rfl, h5⟩
        · rw [he]
          exact ⟨he0, at', h5⟩
  · rintro _ _ w4 ⟨hk4, p2, x, p3, hone, hst⟩
    obtain ⟨N0, N1, N2, N3⟩ := ldV (x := x) p3
    simp only [xP_nil, xP_pick, xP_func, xP_not, xP_add, xP_sub, xP_mul, xP_lss, xP_leq, xP_gtr, xP_geq, xP_max2, xP_min2, xR_eql, xR_neq, Nat.zero_add, Nat.add_zero, Nat.reduceAdd, List.getD_cons_zero, List.getD_cons_succ, xIf_true, xIf_false, FA_23_0, FA_23_1, FA_23_2, FA_23_3, FA_23_4, FA_32_0, FA_32_1, FA_32_2, FA_63_0, FA_63_1, FA_63_2, FA_63_3, FA_80_0, FA_80_1, FA_80_2, FA_85_0, FA_85_1, FA_85_2, LEN_24, LEN_25, LEN_30, LEN_33, LEN_58, LEN_82, LEN_134, N3]
    refine xE_storeN (l1 := []) (l2 := encV rawZero) (l3 := []) SZ_32 p2 rfl rfl rfl (by intro u hu; simp [vV, encV, Value.cells] at hu; rcases hu with rfl | rfl | rfl <;> first | rfl | exact hone) fun w5 hb5 hk5 hz5 => ?_
    have hb5' : Blk w5 B1 32 (encV x) := by simpa [vV, Value.cells] using hb5
    obtain ⟨O0, O1, O2, O3⟩ := ldV (x := x) hb5'
    simp only [xP_nil, xP_pick, xP_func, xP_not, xP_add, xP_sub, xP_mul, xP_lss, xP_leq, xP_gtr, xP_geq, xP_max2, xP_min2, xR_eql, xR_neq, Nat.zero_add, Nat.add_zero, Nat.reduceAdd, List.getD_cons_zero, List.getD_cons_succ, xIf_true, xIf_false, FA_23_0, FA_23_1, FA_23_2, FA_23_3, FA_23_4, FA_32_0, FA_32_1, FA_32_2, FA_63_0, FA_63_1, FA_63_2, FA_63_3, FA_80_0, FA_80_1, FA_80_2, FA_85_0, FA_85_1, FA_85_2, LEN_24, LEN_25, LEN_30, LEN_33, LEN_58, LEN_82, LEN_134, O3]
    refine ⟨hk4.then hk5 (by simp; omega), x, rfl, hone, ?_⟩
    cases hv : f.pVal (b.drop at_) with
    | error e =>
      rw [hv] at hst
      exact ⟨hst.1, hst.2.imp fun at' h4 => h.keptNew h4 hk5 (by simp; omega)⟩
    | ok q =>
      obtain ⟨v, r⟩ := q
      rw [hv] at hst
      obtain ⟨h1, h2, hlt, at', h3, h4⟩ := hst
      exact ⟨IsV.kept h1 h2 hk5 (by simp; omega), h2.mono (by omega), hlt.mono hk5.size, at', h3, h.keptNew h4 hk5 (by simp; omega)⟩
end Go.Proofs.YtclojjiiiejfpaaDoor
