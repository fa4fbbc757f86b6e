import Derived.Test.YtolincflccddhaaXIdx4
namespace Go.Proofs.Ytolincflccddhaa
open Go Go.X

def nearH (base t : Int) : List Int → List Hd
  | [] => []
  | c :: cs => ⟨base, c, t, 0, 0⟩ :: nearH (base + c) (t + 1) cs
theorem nearH_len : ∀ (cs : List Int) (b t : Int), (nearH b t cs).length = cs.length
  | [], _, _ => rfl
  | c :: cs, b, t => by simp [nearH, nearH_len cs]
theorem nearH_snoc : ∀ (cs : List Int) (b t c : Int), nearH b t (cs ++ [c]) = nearH b t cs ++ [⟨b + cs.sum, c, t + cs.length, 0, 0⟩]
  | [], b, t, c => by simp [nearH]
  | x :: cs, b, t, c => by
    simp only [List.cons_append, nearH, nearH_snoc cs, List.sum_cons, List.length_cons]
    congr 3
    · congr 1 <;> omega
theorem nearH_get : ∀ (cs : List Int) (b t : Int) (i : Nat) (h : Hd), (nearH b t cs)[i]? = some h → h.base = b + (cs.take i).sum ∧ cs[i]? = some h.count
  | [], _, _, i, h, hh => by simp [nearH] at hh
  | c :: cs, b, t, 0, h, hh => by simp [nearH] at hh; subst hh; simp
  | c :: cs, b, t, i + 1, h, hh => by
    simp only [nearH, List.getElem?_cons_succ] at hh
    obtain ⟨h1, h2⟩ := nearH_get cs _ _ i h hh
    refine ⟨by rw [h1, List.take_succ_cons, List.sum_cons]; omega, by simpa using h2⟩
theorem sum_bd : ∀ (cs : List Int), (∀ c ∈ cs, 1 ≤ c ∧ c ≤ 8) → 0 ≤ cs.sum ∧ cs.sum ≤ 8 * cs.length
  | [], _ => by simp
  | c :: cs, h => by
    have h1 := h c List.mem_cons_self
    have h2 := sum_bd cs (fun x hx => h x (List.mem_cons_of_mem _ hx))
    simp only [List.sum_cons, List.length_cons]
    omega
theorem sum_take_le (cs : List Int) (h : ∀ c ∈ cs, 1 ≤ c ∧ c ≤ 8) (i : Nat) : (cs.take i).sum ≤ cs.sum := by
  have h1 := sum_bd (cs.drop i) (fun c hc => h c (List.mem_of_mem_drop hc))
  have h2 : cs.sum = (cs.take i).sum + (cs.drop i).sum := by rw [← List.sum_append, List.take_append_drop]
  omega
theorem sum_take_mono (cs : List Int) (h : ∀ c ∈ cs, 1 ≤ c ∧ c ≤ 8) {i j : Nat} (hij : i < j) {c : Int} (hc : cs[i]? = some c) : (cs.take i).sum + c ≤ (cs.take j).sum := by
  have e : cs.take (i + 1) = cs.take i ++ [c] := by
    obtain ⟨hi, rfl⟩ := List.getElem?_eq_some_iff.1 hc
    exact List.take_succ_eq_append_getElem hi
  have h1 := sum_take_le (cs.take j) (fun x hx => h x (List.mem_of_mem_take hx)) (i + 1)
  rw [List.take_take, Nat.min_eq_left (by omega), e, List.sum_append] at h1
  simp at h1
  omega
theorem nearH_sorted {cs : List Int} {b t : Int} (h : ∀ c ∈ cs, 1 ≤ c ∧ c ≤ 8) : Sorted (nearH b t cs) := by
  intro i j hi hj hij h1 h2
  obtain ⟨e1, c1⟩ := nearH_get _ _ _ _ _ h1
  obtain ⟨e2, c2⟩ := nearH_get _ _ _ _ _ h2
  have := sum_take_mono cs h hij c1
  omega
theorem nearH_ranged {cs : List Int} {b t : Int} (h : ∀ c ∈ cs, 1 ≤ c ∧ c ≤ 8) (hb : 0 ≤ b) (hs : b + cs.sum ≤ 9223372036854775807) : Ranged (nearH b t cs) := by
  intro x hx
  obtain ⟨i, hi, rfl⟩ := List.getElem_of_mem hx
  obtain ⟨e1, c1⟩ := nearH_get _ _ _ _ _ (List.getElem?_eq_getElem hi)
  have h1 := h _ (List.mem_of_getElem? c1)
  have h2 := sum_bd (cs.take i) (fun c hc => h c (List.mem_of_mem_take hc))
  have h3 := sum_take_le cs h (i + 1)
  have e : cs.take (i + 1) = cs.take i ++ [((nearH b t cs)[i]).count] := by
    obtain ⟨hi', he⟩ := List.getElem?_eq_some_iff.1 c1
    rw [List.take_succ_eq_append_getElem hi', he]
  rw [e, List.sum_append] at h3
  simp at h3
  omega

theorem near_ok {w : World} {every back : Int} {l : List Int} {v : Value} (he : -9223372036854775808 ≤ every ∧ every ≤ 9223372036854775807) (hsl : SlT w encI v l) :
    Gives Try.prog 4 #[.int .i64 every, v, .int .i64 back] w fun u w' => u = .bool true ∧ Kept [] w w' := by
  refine C_IndexNear ?_
  unfold S_IndexNear
  refine xE_call CF_8 (new_ok he.1 he.2) ?_
  rintro _ w1 ⟨rfl, hx0, hk1, hz1⟩
  simp only [xR_pnil PT_22, xIf_false, Option.isNone_some]
  generalize hb : w.heap.size = b at *
  generalize (max every 1).toNat = ev at *
  obtain ⟨la, lc, rfl, hlc, hlr⟩ := hsl
  -- the counts
  refine xLoop_of (fun vs w' => ∃ (cs : List Int) (cv : Value) (F : List Nat), vs = [.int .i64 cs.sum, cv, .int .i64 cs.length] ∧ cs.length ≤ 20 ∧ cs.length ≤ l.length ∧ (∀ c ∈ cs, 1 ≤ c ∧ c ≤ 8) ∧ Own w' 3 1 cv cs.length (cs.flatMap encI) F ∧ (∀ g ∈ F, b < g) ∧
      Ix w' b ev [] [b] ∧ Kept [] w w' ∧ b < w'.heap.size)
    (fun vs _ => match vs with | [_, _, .int _ k] => 20 - k.toNat | _ => 0) ⟨[], .slice none 0 0, [], rfl, by simp, by simp, by simp, own_nil _ _ _, by simp, hx0, hk1, by omega⟩ ?_
  rintro _ _ w2 ⟨cs, cv, F, rfl, hc20, hcl, hcr, hown, hF, hix, hk2, hbw⟩
  have hsum := sum_bd cs hcr
  refine xJoin_of (fun vs w' => vs = [.bool (decide (cs.length < l.length ∧ cs.length < 20))] ∧ w2 = w') ?_ ?_
  · simp only [xP_lss, List.getD_cons_zero, List.getD_cons_succ, LEN_28, xIf_dec]
    refine ⟨fun h => ⟨?_, trivial⟩, fun h => ⟨?_, trivial⟩⟩
    · have := Int.ofNat_lt.1 h
      simp [this]
      omega
    · simp
      omega
  · rintro _ _ _ ⟨rfl, rfl⟩
    simp only [xP_add, xP_sub, List.getD_cons_zero, List.getD_cons_succ, xIf_dec]
    refine ⟨fun hlt => ?_, fun hge => ?_⟩
    · -- one more count
      obtain ⟨lb, lo, rfl, hat⟩ := hlr.resolve_left (by intro h; rw [h] at hlt; simp at hlt)
      refine (xP_IAn SL_28 SZ_3 hlt.1).2 ?_
      refine (ld1 ONE_3 (at_one ((at_elem encI_len hat (List.getElem?_eq_getElem hlt.1)).kept hk2 (by simp)))).2 ?_
      refine xE_call CF_13 (within_ok (by omega) (by omega) (by omega)) ?_
      rintro _ _ ⟨rfl, rfl⟩
      have hwb := within_bd (n := l[cs.length]'hlt.1) (lo := 1) (hi := 8) (by omega)
      generalize within (l[cs.length]'hlt.1) 1 8 = c at *
      refine xE_buildSlice EL_28 [.int .i64 c] rfl rfl (by simp [Value.cells]) (by omega) (by omega) fun w3 hb3 hk3 hz3 => ?_
      refine xE_append EL_28 (hown.kept hk3 (by simp)) (news := [.int .i64 c]) hb3.at rfl (by simp [Value.oneCell']) (by omega) (by unfold maxLen; omega) (by omega) fun v' w4 F4 ho4 hk4 hf4 hone => ?_
      have hfl : cs.flatMap encI ++ [.int .i64 c] = (cs ++ [c]).flatMap encI := by simp [encI]
      rw [hfl] at ho4
      have hlen' : (cs ++ [c]).length = cs.length + 1 := by simp
      have hsl4 : SlT w4 encI v' (cs ++ [c]) := (show Own w4 3 1 v' (cs ++ [c]).length _ F4 by rw [hlen']; exact ho4).slT encI_len (by omega)
      obtain ⟨va, vc, rfl, hvc, hvr⟩ := hsl4
      obtain ⟨vb, vo, rfl, vat⟩ := hvr.resolve_left (by simp)
      refine (xP_IAn SL_28 SZ_3 (by omega)).2 ?_
      refine (ld1 ONE_3 (at_one (at_elem (l := cs ++ [c]) (i := cs.length) (x := c) encI_len vat (by simp)))).2 ?_
      try simp only [xP_add]
      rw [wrap64 (by omega) (by omega), wrap64 (by omega) (by omega)]
      have hk24 : Kept F w2 w4 := hk3.trans hk4 (by simp) (fun k hk => .inl hk)
      refine ⟨⟨cs ++ [c], _, F4, ?_, by omega, by omega, ?_, by rw [hlen']; exact ho4, ?_, ?_, ?_, ?_⟩, ?_⟩
      · simp
      · intro x hx
        rcases List.mem_append.1 hx with hx | hx
        · exact hcr x hx
        · simp at hx; subst hx; exact hwb
      · intro g hg
        rcases hf4 g hg with h | h
        · exact hF g h
        · omega
      · exact hix.kept hk24 (fun g hg hgF => by simp at hg; subst hg; have := hF _ hgF; omega)
      · exact hk2.then hk24 (fun g hg => .inr (by have := hF g hg; omega))
      · have := hk24.size; omega
      · omega
    · -- the heads
      have hsl2 : SlT w2 encI cv cs := hown.slT encI_len (by omega)
      have hcva := hown.addr
      obtain ⟨va, vc, rfl, hvc, hvr⟩ := hsl2
      rw [wrap64 (by omega) (by omega)]
      try simp only [LEN_28]
      generalize hB : 9223372036854775807 - cs.sum = B0 at *
      refine xLoop_of (fun vs w' => ∃ (k : Nat) (F' : List Nat), vs = [.int .i64 (B0 + (cs.take k).sum), .int .i64 k] ∧ k ≤ cs.length ∧ Ix w' b ev (nearH B0 0 (cs.take k)) F' ∧ (∀ g ∈ F', b ≤ g ∧ g ∉ F) ∧ Kept [] w w' ∧ b < w'.heap.size ∧
          (∀ bb o, va = some ⟨bb, o, none⟩ → At w' bb o (cs.flatMap encI)) ∧ (∀ g ∈ F, g < w'.heap.size))
        (fun vs _ => match vs with | [_, .int _ k] => cs.length - k.toNat | _ => 0) ?_ ?_
      · refine ⟨0, [b], by simp, by omega, by simpa [nearH] using hix, by
          intro g hg; simp at hg; subst hg; exact ⟨Nat.le_refl _, fun h => by have := hF _ h; omega⟩, hk2, hbw, ?_, hown.lt⟩
        intro bb o hva
        rcases hvr with h | ⟨b', o', hva', hat⟩
        · subst h; exact At.nil _ _ _
        · rw [hva] at hva'; cases hva'; exact hat
      rintro _ _ w3 ⟨k, F', rfl, hkl, hix3, hF3, hk3, hbw3, hat3, hFw⟩
      simp only [xP_add, xP_lss, List.getD_cons_zero, List.getD_cons_succ, xIf_dec]
      refine ⟨fun hlt2 => ?_, fun hge2 => ?_⟩
      · have hlt' : k < cs.length := by omega
        obtain ⟨vb, vo, rfl, _⟩ := hvr.resolve_left (by intro h; rw [h] at hlt'; simp at hlt')
        refine (xP_IAn SL_28 SZ_3 hlt').2 ?_
        refine (ld1 ONE_3 (at_one (at_elem (enc := encI) encI_len (hat3 vb vo rfl) (List.getElem?_eq_getElem hlt')))).2 ?_
        refine (xP_build (cells := (encH ⟨B0 + (cs.take k).sum, cs[k], k, 0, 0⟩).toArray) (by kernel_rfl)).2 ?_
        refine xE_call CF_9 (add_ok (h := ⟨B0 + (cs.take k).sum, cs[k], k, 0, 0⟩) hix3 (by rw [nearH_len, List.length_take]; omega)) ?_
        rintro _ w4 ⟨rfl, F4, hix4, hk4, hf4⟩
        have hst := sum_take_le cs hcr (k + 1)
        have hst0 := sum_bd (cs.take k) (fun c hc => hcr c (List.mem_of_mem_take hc))
        have hck := hcr _ (List.getElem_mem hlt')
        have hts : (cs.take (k + 1)) = cs.take k ++ [cs[k]] := List.take_succ_eq_append_getElem hlt'
        rw [hts, List.sum_append] at hst
        simp at hst
        try simp only [xP_add]
        rw [wrap64 (by omega) (by omega), wrap64 (by omega) (by omega)]
        refine ⟨⟨k + 1, F4, ?_, hlt', ?_, ?_, ?_, ?_, ?_, ?_⟩, ?_⟩
        · rw [hts, List.sum_append]
          simp
          omega
        · rw [hts, nearH_snoc]
          have e : ((0 : Int) + ((cs.take k).length : Nat)) = (k : Int) := by rw [List.length_take]; omega
          rw [e]
          exact hix4
        · intro g hg
          rcases hf4 g hg with h | h
          · exact hF3 g h
          · exact ⟨by omega, fun hgF => by have := hFw g hgF; omega⟩
        · exact hk3.then hk4 (fun g hg => .inr (by have := (hF3 g hg).1; omega))
        · have := hk4.size; omega
        · intro bb o hva
          exact (hat3 bb o hva).kept hk4 (fun h => (hF3 bb h).2 (hcva bb o _ _ (by rw [hva])))
        · intro g hg; have := hFw g hg; have := hk4.size; omega
        · omega
      · -- what is found
        obtain rfl : k = cs.length := by omega
        rw [List.take_length] at hix3
        have hs1 : Sorted (nearH B0 0 cs) := nearH_sorted hcr
        have hs2 : Ranged (nearH B0 0 cs) := nearH_ranged hcr (by omega) (by omega)
        have hll : (nearH B0 0 cs).length = cs.length := nearH_len _ _ _
        generalize nearH B0 0 cs = hs at *
        have hfind : ∀ (o : Int) (m : Nat), m ≤ hs.length → (∀ j h, j < m → hs[j]? = some h → h.base + h.count ≤ o) → (∀ h, hs[m]? = some h → o < h.base + h.count) → hs.findIdx (has o) = m := by
          intro o m hm h1 h2
          rcases Nat.lt_or_ge m hs.length with hlt | hge
          · refine (List.findIdx_eq hlt).2 ⟨?_, fun j hj => ?_⟩
            · have := h2 _ (List.getElem?_eq_getElem hlt)
              simp [has]; omega
            · have := h1 j _ hj (List.getElem?_eq_getElem (by omega))
              simp [has]; omega
          · obtain rfl : m = hs.length := by omega
            refine List.findIdx_eq_length_of_false (fun h hm => ?_)
            obtain ⟨j, hj, rfl⟩ := List.getElem_of_mem hm
            have := h1 j _ hj (List.getElem?_eq_getElem hj)
            simp [has]; omega
        refine xJoin_of (fun vs w' => vs = [.bool false] ∧ Kept [] w3 w') ?_ ?_
        · refine xE_call CF_10 (seek_ok hix3 (by omega) hs1 hs2 (fun _ => by omega)) ?_
          rintro _ w4 ⟨rfl, hk4⟩
          have e1 : hs.findIdx (has 9223372036854775807) = cs.length := hll ▸ hfind _ hs.length (by omega) (fun j h _ hh => by have := hs2 h (List.mem_of_getElem? hh); omega) (fun h hh => by simp at hh)
          rw [e1]
          simp only [xR_neq, xIf_false, ne_eq, not_true_eq_false, decide_false]
          refine xE_call CF_10 (seek_ok (hix3.kept hk4 (by simp)) (by omega) hs1 hs2 (fun _ => by omega)) ?_
          rintro _ w5 ⟨rfl, hk5⟩
          have e2 : hs.findIdx (has 0) = 0 := hfind _ 0 (by omega) (by omega) (fun h hh => by have := hs2 h (List.mem_of_getElem? hh); omega)
          rw [e2]
          try simp only [xR_neq]
          exact ⟨by simp, hk4.then hk5 (by simp)⟩
        · rintro _ _ w4 ⟨rfl, hk4⟩
          try simp only [List.getD_cons_zero, xIf_false]
          refine xE_call CF_13 (within_ok (by omega) (by omega) (by omega)) ?_
          rintro _ _ ⟨rfl, rfl⟩
          have hwb := within_bd (n := back) (lo := 1) (hi := 200) (by omega)
          generalize within back 1 200 = d at *
          try simp only [xP_sub]
          rw [wrap64 (by omega) (by omega)]
          generalize hO : 9223372036854775807 - d = O at *
          have hix4 := hix3.kept hk4 (by simp)
          refine xLoop_of (fun vs w' => ∃ m : Nat, vs = [.int .i64 m] ∧ m ≤ hs.length ∧ (∀ j h, j < m → hs[j]? = some h → h.base + h.count ≤ O) ∧ Kept [] w4 w') (fun vs _ => match vs with | [.int _ k] => hs.length - k.toNat | _ => 0) ⟨0, rfl, by omega, by omega, Kept.refl _ _⟩ ?_
          rintro _ _ w5 ⟨m, rfl, hm, hbef, hk5⟩
          refine xJoin_of (fun vs w' => vs = [.bool (decide (∃ h, hs[m]? = some h ∧ h.base + h.count ≤ O))] ∧ Kept [] w4 w') ?_ ?_
          · simp only [xP_lss, List.getD_cons_zero, xIf_dec]
            refine ⟨fun h => ?_, fun h => ?_⟩
            · have hlt' : m < hs.length := by omega
              refine xE_call CF_14 (head_ok (i := m) (hix4.kept hk5 (by simp))) ?_
              rintro _ w6 ⟨rfl, hk6⟩
              rw [if_pos (by omega)]
              refine FH0.2 ?_
              refine xE_call CF_14 (head_ok (i := m) ((hix4.kept hk5 (by simp)).kept hk6 (by simp))) ?_
              rintro _ w7 ⟨rfl, hk7⟩
              rw [if_pos (by omega)]
              refine FH1.2 ?_
              have hg : hs.getD (Int.toNat (m : Int)) zH = hs[m] := by simp [List.getD, hlt']
              rw [hg]
              have hr := hs2 _ (List.getElem_mem hlt')
              simp only [xP_add, xP_leq]
              rw [wrap64 (by omega) (by omega)]
              refine ⟨?_, (hk5.then hk6 (by simp)).then hk7 (by simp)⟩
              congr 2
              simp [hlt']
            · refine ⟨?_, hk5⟩
              have : hs[m]? = none := List.getElem?_eq_none (by omega)
              simp [this]
          · rintro _ _ w6 ⟨rfl, hk6⟩
            simp only [xP_add, List.getD_cons_zero, xIf_dec]
            refine ⟨fun hex => ?_, fun hno => ?_⟩
            · obtain ⟨h, hh, hle⟩ := hex
              have hlt' := (List.getElem?_eq_some_iff.1 hh).1
              rw [wrap64 (by omega) (by omega)]
              refine ⟨⟨m + 1, rfl, hlt', fun j x hj hx => ?_, hk6⟩, by omega⟩
              by_cases hjm : j < m
              · exact hbef j x hjm hx
              · obtain rfl : j = m := by omega
                rw [hh] at hx; cases hx; exact hle
            · refine xE_call CF_10 (seek_ok (hix4.kept hk6 (by simp)) (by omega) hs1 hs2 (fun _ => by omega)) ?_
              rintro _ w7 ⟨rfl, hk7⟩
              have e3 : hs.findIdx (has O) = m := hfind _ m hm hbef (fun h hh => by
                rcases Int.lt_or_le O (h.base + h.count) with h1 | h1
                · exact h1
                · exact absurd ⟨h, hh, h1⟩ hno)
              rw [e3]
              simp only [xR_eql, xIf_true, decide_true]
              refine xE_call CF_3 runs_ok ?_
              rintro _ w8 ⟨rfl, hk8⟩
              exact ⟨rfl, (((hk3.then hk4 (by simp)).then hk6 (by simp)).then hk7 (by simp)).then hk8 (by simp)⟩
end Go.Proofs.Ytolincflccddhaa
