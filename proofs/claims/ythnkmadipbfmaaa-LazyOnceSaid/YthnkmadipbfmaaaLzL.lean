/- LazyNests: a cell's function asks others. -/
import Derived.Test.YthnkmadipbfmaaaLzK
namespace Go.Proofs.Ythnkmadipbfmaaa.LzL
open Go.RowKit Go.Proofs.YthnkmadipbfmaaaW.PrintWords Go.Proofs.YthnkmadipbfmaaaW.PrintLast Go.Proofs.YthnkmadipbfmaaaW.PrintMore Go.Proofs.Ythnkmadipbfmaaa.M Go.Proofs.Ythnkmadipbfmaaa.Reg Go.Proofs.Ythnkmadipbfmaaa.Rgw Go.Proofs.Ythnkmadipbfmaaa.Rwd Go.Proofs.Ythnkmadipbfmaaa.Chp Go.Proofs.Ythnkmadipbfmaaa.LzA Go.Proofs.Ythnkmadipbfmaaa.LzB Go.Proofs.Ythnkmadipbfmaaa.LzC Go.Proofs.Ythnkmadipbfmaaa.LzD Go.Proofs.Ythnkmadipbfmaaa.LzE Go.Proofs.Ythnkmadipbfmaaa.LzF Go.Proofs.Ythnkmadipbfmaaa.LzG Go.Proofs.Ythnkmadipbfmaaa.LzJ Go.Proofs.Ythnkmadipbfmaaa.LzK
attribute [local go_sem] max2_mx min2_mn max_two min_two max_three min_three max_four min_four
set_option linter.unusedVariables false
set_option linter.unusedSimpArgs false

section
variable {w0 : World} {n : Nat} {A : Option Addr} {len cap : Nat} {ans : Nat → Int} {B2 B6 B7 : Nat} {A7 : Option Addr} {k7 : Nat} {Ls : List Nat} {Vs : Nat → Nat}
/-- asking cell k, what it comes to -/
def Asks (w0 : World) (n : Nat) (A : Option Addr) (len cap : Nat) (ans : Nat → Int) (B2 B6 B7 : Nat) (A7 : Option Addr) (k7 : Nat) (Ls : List Nat) (Vs : Nat → Nat) (k : Nat) : Prop :=
  ∀ w done cnt, NS w0 n A len cap ans B2 B6 B7 A7 k7 Ls Vs (k + 1) done cnt w → (0 ≤ cnt - cntd done (k + 1) ∧ cnt - cntd done (k + 1) + k ≤ 50) →
    Calls Try.prog 14 #[ptr (Ls.getD k 0)] w (fun e w' => e = .returned (.int .i64 (tell ans k)) ∧ Got w0 n A len cap ans B2 B6 B7 A7 k7 Ls Vs k (k + 1) done cnt w w')
set_option maxHeartbeats 8000000 in
set_option maxRecDepth 100000 in
theorem clo13 (Y : Lay w0 n A len ans B2 B6 B7 A7 k7 Ls Vs) (i : Nat) (hi : i < n) (IH : ∀ k, k < i → Asks w0 n A len cap ans B2 B6 B7 A7 k7 Ls Vs k) (w : World) (done : Nat → Bool) (cnt : Int) (h : NS w0 n A len cap ans B2 B6 B7 A7 k7 Ls Vs i done cnt w) (hb : 0 ≤ cnt - cntd done i ∧ cnt - cntd done i + i ≤ 50) :
    Calls Try.prog 13 #[ptr B6, ptr B2, ptr (Vs i), ptr B7] w (fun e w' => e = .returned (.int .i64 (tell ans i)) ∧ Ch (SC B6 Ls i) w w' ∧ ∃ done', NS w0 n A len cap ans B2 B6 B7 A7 k7 Ls Vs i done' (cnt + 1 + (cntd done' i - cntd done i)) w' ∧ ∀ k, done k = true → done' k = true) := by
  have cb := cntd_b done i
  have h12 := Y.len_
  have k0 : Ch (· = B6) w (w.setCell ⟨B6, 0, none⟩ (.int .i64 (cnt + 1))) := Ch.set _ _ _ rfl
  have h1 : NS w0 n A len cap ans B2 B6 B7 A7 k7 Ls Vs i done (cnt + 1) (w.setCell ⟨B6, 0, none⟩ (.int .i64 (cnt + 1))) :=
    h.turn Y k0 (fun x hx => .inl hx) (at_set h.h6 0 _) (fun j hj => k0.at (h.hC j hj) (Y.c6 j (by omega)))
  obtain ⟨ad, hA, hsrc⟩ := Y.src i hi
  have c6 : w.cell? ⟨B6, 0, none⟩ = some (.int .i64 cnt) := at_cell h.h6 0
  have z6 : w.frozen? ⟨B6, 0, none⟩ = false := at_free h.h6 0
  have hw1 : wrap64 (cnt + 1) = cnt + 1 := w64 (by omega) (by omega)
  subst hA
  have c2 : (w.setCell ⟨B6, 0, none⟩ (.int .i64 (cnt + 1))).cell? ⟨B2, 0, none⟩ = some (.slice (some ad) len cap) := at_cell h1.h2 0
  have cV : (w.setCell ⟨B6, 0, none⟩ (.int .i64 (cnt + 1))).cell? ⟨Vs i, 0, none⟩ = some (.int .i64 i) := at_cell (h1.hV i hi) 0
  have cS : (w.setCell ⟨B6, 0, none⟩ (.int .i64 (cnt + 1))).cell? (ad.add i) = some (.int .i64 (ans i)) := by
    have hl := World.block_lt_of_cell? w0 _ hsrc
    exact (h1.bel.cell hl).trans hsrc
  have hil : (i : Int) < (len : Int) := by omega
  go_enter Try.func13, Try.ntmps13
  go_wp2
  clear c6 z6 hw1 c2 cV cS hil hsrc
  refine loop_m (fun k W => ∃ d', NS w0 n (some ad) len cap ans B2 B6 B7 A7 k7 Ls Vs i d' (cnt + 1 + (cntd d' i - cntd done i)) W ∧ (∀ k, done k = true → d' k = true) ∧ Ch (SC B6 Ls i) w W) [14, 15, 16, 17, 18, 19, 20, 21, 22, 23, 24, 25] (fun k => [(5, .int .i64 ((ans i).tmod 1099511627776 + sm ans k.toNat)), (6, .int .i64 k)]) (i : Int) (by omega) (by simp only [putF2, List.foldl_cons, List.foldl_nil, u_1, u_2, u_3, Nat.reduceAdd, Int.toNat_zero, sm, Int.add_zero]; rfl) ⟨done, by rw [Int.sub_self, Int.add_zero]; exact h1, fun _ h => h, k0.mono (fun x _ hx => .inl hx)⟩ ?_ ?_
  · clear h1 h
    intro ki g W j0 j1 hM
    obtain ⟨d', hN, hmono, hc⟩ := hM
    obtain ⟨k, rfl⟩ := Int.eq_ofNat_of_zero_le j0
    have hki : k < i := by omega
    rw [Int.toNat_natCast, show ((k : Int) + 1).toNat = k + 1 by omega]
    obtain ⟨ad7, k', e7, cS⟩ := hN.sl.get (i := k) (by rw [Y.ln]; omega)
    obtain ⟨rfl, _, rfl⟩ : A7 = some ad7 ∧ n = Ls.length ∧ k7 = k' := by injection e7 with e1 e2 e3; exact ⟨e1, e2, e3⟩
    have c7 : W.cell? ⟨B7, 0, none⟩ = some (.slice (some ad7) n k7) := at_cell hN.h7 0
    have cV : W.cell? ⟨Vs i, 0, none⟩ = some (.int .i64 i) := at_cell (hN.hV i hi) 0
    have hkn : (k : Int) < (n : Int) := by omega
    have b1 := tm (ans i)
    have b2 := sm_b ans k
    have b3 := tell_b ans k
    have q1 := cntd_le d' (k := k + 1) (i := i) (by omega)
    have hIH := IH k hki W d' _ (hN.less (by omega)) (by omega)
    have hws : wrap64 ((ans i).tmod 1099511627776 + sm ans k + tell ans k) = (ans i).tmod 1099511627776 + sm ans (k + 1) := by
      rw [w64 (by omega) (by omega)]
      show _ = _ + (sm ans k + tell ans k)
      omega
    have hwk : wrap64 ((k : Int) + 1) = (k : Int) + 1 := w64 (by omega) (by omega)
    clear b1 b2 b3 q1 IH
    simp only [putF2, List.foldl_cons, List.foldl_nil, u_1, u_2, u_3, Nat.reduceAdd]
    go_wp2_with (go_at_call 14; refine Calls.mono hIH ?_; rintro e W' ⟨rfl, hG⟩)
    rw [hws]
    clear hws hwk
    obtain ⟨hc', d'', hN', hm', _, h3⟩ := hG.more hN Y hki (by omega)
    have e := cntd_split (d := d'') (d' := d') (i := k) (fun j hj => h3 j hj) hki
    have e2 : cnt + 1 + (cntd d' i - cntd done i) + (cntd d'' (k + 1) - cntd d' (k + 1)) = cnt + 1 + (cntd d'' i - cntd done i) := by omega
    rw [e2] at hN'
    refine round_end' ⟨d'', hN', fun j hj => hm' j (hmono j hj), hc.trans (hc'.mono (fun x _ hx => ?_))⟩ ?_
    · rcases hx with hx | ⟨j, hj, hx⟩
      · exact .inl hx
      · exact .inr ⟨j, by omega, hx⟩
    · rfl
  · clear h1 h IH
    intro g W hM
    obtain ⟨d', hN, hmono, hc⟩ := hM
    rw [Int.toNat_natCast]
    have cV : W.cell? ⟨Vs i, 0, none⟩ = some (.int .i64 i) := at_cell (hN.hV i hi) 0
    have hii : ¬ (i : Int) < (i : Int) := by omega
    simp only [putF2, List.foldl_cons, List.foldl_nil, u_1, u_2, u_3, Nat.reduceAdd]
    go_wp2
    go_ret
    exact ⟨rfl, hc, d', hN, hmono⟩
theorem asks (Y : Lay w0 n A len ans B2 B6 B7 A7 k7 Ls Vs) : ∀ i, i < n → Asks w0 n A len cap ans B2 B6 B7 A7 k7 Ls Vs i := by
  intro i
  induction i using Nat.strongRecOn with
  | ind i ih =>
    intro hi w done cnt h hb
    have hh := h.hC i (Nat.lt_succ_self i)
    cases hd : done i with
    | true =>
      simp only [cl, hd, dn, if_true] at hh
      refine (get_done (by decide) w hh).mono ?_
      rintro e w' ⟨rfl, hbw⟩
      exact ⟨rfl, Ch.of_below hbw (fun k hk hk' => by omega), done, by rw [Int.sub_self, Int.add_zero]; exact h.step hbw, fun _ h => h, hd, fun _ _ => rfl⟩
    | false =>
      simp only [cl, hd, dn, Bool.false_eq_true, if_false] at hh
      have hcd : cntd done (i + 1) = cntd done i := by rw [cntd, hd]; simp
      have lt6 := at_lt h.h6
      refine (get_first 13 #[ptr B6, ptr B2, ptr (Vs i), ptr B7] (fun _ => rfl) w (some (tell ans i)) (SC B6 Ls i) (fun w' => ∃ d', NS w0 n A len cap ans B2 B6 B7 A7 k7 Ls Vs i d' (cnt + 1 + (cntd d' i - cntd done i)) w' ∧ ∀ k, done k = true → d' k = true) hh (fun k hk => ?_) (fun {w2 w3} hc ⟨d', hn, hm⟩ => ⟨d', ?_, hm⟩) (fun w1 hc => ?_)).mono ?_
      · rcases hk with rfl | ⟨j, hj, rfl⟩
        · exact ⟨lt6, fun e => Y.c6 i hi e.symm⟩
        · exact ⟨at_lt (h.hC j (by omega)), fun e => by have := Y.inj j i (by omega) hi e; omega⟩
      · refine hn.turn Y hc (fun x hx => .inr ⟨i, hi, hx⟩) (hc.at hn.h6 (fun e => Y.c6 i hi e.symm)) (fun j hj => hc.at (hn.hC j hj) (fun e => ?_))
        have := Y.inj j i (by omega) hi e; omega
      · have h1 : NS w0 n A len cap ans B2 B6 B7 A7 k7 Ls Vs i done cnt w1 := h.turn Y hc (fun x hx => .inr ⟨i, hi, hx⟩) (hc.at h.h6 (fun e => Y.c6 i hi e.symm)) (fun j hj => hc.at (h.hC j (by omega)) (fun e => by have := Y.inj j i (by omega) hi e; omega))
        refine (clo13 Y i hi (fun k hk => ih k hk (by omega)) w1 done cnt h1 (by omega)).mono ?_
        rintro e w' ⟨rfl, hc', hd'⟩
        exact ⟨rfl, hc', hd'⟩
      · rintro e w' ⟨rfl, hc, ⟨d', hn, hm⟩, hself⟩
        refine ⟨rfl, hc.mono (fun x _ hx => ?_), fun j => if j < i then d' j else if j = i then true else done j, ?_, fun k hk => ?_, ?_, fun k hk => ?_⟩
        · rcases hx with (hx | ⟨j, hj, hx⟩) | hx
          · exact .inl hx
          · exact .inr ⟨j, by omega, hx⟩
          · exact .inr ⟨i, Nat.le_refl _, hx⟩
        · have e1 : cntd (fun j => if j < i then d' j else if j = i then true else done j) (i + 1) = cntd d' i + 1 := by
            rw [cntd, cntd_congr (d' := d') (fun j hj => by simp [hj])]
            simp
          have e2 : cnt + (cntd (fun j => if j < i then d' j else if j = i then true else done j) (i + 1) - cntd done (i + 1)) = cnt + 1 + (cntd d' i - cntd done i) := by omega
          rw [e2]
          refine ⟨hn.bel, hn.h2, hn.h6, hn.h7, hn.sl, hn.hV, fun j hj => ?_⟩
          by_cases hji : j < i
          · simp only [hji, if_true]
            exact hn.hC j hji
          · obtain rfl : j = i := by omega
            simp only [Nat.lt_irrefl, if_false, if_true, cl, dn]
            exact hself
        · by_cases h1 : k < i
          · simp only [h1, if_true]; exact hm k hk
          · by_cases h2 : k = i
            · simp [h2]
            · simp [h1, h2, hk]
        · simp
        · simp [show ¬ k < i by omega, show ¬ k = i by omega]
theorem ask_all (Y : Lay w0 n A len ans B2 B6 B7 A7 k7 Ls Vs) {i : Nat} (hi : i < n) {done : Nat → Bool} {w : World} (h : NS w0 n A len cap ans B2 B6 B7 A7 k7 Ls Vs n done (cntd done n) w) :
    Calls Try.prog 14 #[ptr (Ls.getD i 0)] w (fun e w' => e = .returned (.int .i64 (tell ans i)) ∧ Ch (SB B6 Ls i) w w' ∧ ∃ done', NS w0 n A len cap ans B2 B6 B7 A7 k7 Ls Vs n done' (cntd done' n) w' ∧ (∀ k, done k = true → done' k = true) ∧ done' i = true) := by
  have h12 := Y.len_
  have q1 := cntd_le done (k := i + 1) (i := n) (by omega)
  refine (asks Y i hi w done _ (h.less (by omega)) (by omega)).mono ?_
  rintro e w' ⟨rfl, hG⟩
  obtain ⟨hc, d', hn, hm, hd, h3⟩ := hG.more h Y hi (Nat.le_refl _)
  have e := cntd_split (d := d') (d' := done) (i := i) (fun j hj => h3 j hj) hi
  have e2 : cntd done n + (cntd d' (i + 1) - cntd done (i + 1)) = cntd d' n := by omega
  rw [e2] at hn
  exact ⟨rfl, hc, d', hn, hm, hd⟩
theorem NS.cellAt {ad7 : Addr} {r : Nat} {done : Nat → Bool} {cnt : Int} {w : World} (h : NS w0 n A len cap ans B2 B6 B7 (some ad7) k7 Ls Vs r done cnt w) (ln : Ls.length = n) {i : Nat} (hi : i < n) : w.cell? (ad7.add i) = some (ptr (Ls.getD i 0)) := by
  obtain ⟨ad, k, e, hc⟩ := h.sl.get (i := i) (by omega)
  injection e with e1 e2 e3
  injection e1 with e1
  subst e1
  exact hc
/-- all that NS speaks of lies below -/
structure LT (n : Nat) (B2 B6 B7 : Nat) (A7 : Option Addr) (k7 : Nat) (Ls : List Nat) (Vs : Nat → Nat) (BW : Nat) : Prop where
  b2 : B2 < BW
  b6 : B6 < BW
  b7 : B7 < BW
  bV : ∀ i, i < n → Vs i < BW
  bC : ∀ i, i < n → Ls.getD i 0 < BW
  row : ∀ k, (Value.slice A7 n k7).ownBlock = some k → k < BW
theorem NS.lt {done : Nat → Bool} {cnt : Int} {w : World} (h : NS w0 n A len cap ans B2 B6 B7 A7 k7 Ls Vs n done cnt w) : LT n B2 B6 B7 A7 k7 Ls Vs w.heap.size :=
  ⟨at_lt h.h2, at_lt h.h6, at_lt h.h7, fun i hi => at_lt (h.hV i hi), fun i hi => at_lt (h.hC i hi), fun k hk => by obtain ⟨cs, hcs⟩ := h.sl.own hk; exact at_lt hcs⟩
theorem NS.far {BW : Nat} (l : LT n B2 B6 B7 A7 k7 Ls Vs BW) (hb : w0.heap.size ≤ BW) {r : Nat} (hr : r ≤ n) {done : Nat → Bool} {cnt : Int} {w w' : World} (h : NS w0 n A len cap ans B2 B6 B7 A7 k7 Ls Vs r done cnt w) (hc : Ch (· = BW) w w') : NS w0 n A len cap ans B2 B6 B7 A7 k7 Ls Vs r done cnt w' :=
  ⟨h.bel.trans (hc.below h.bel.size (fun k hk e => by omega)), hc.at h.h2 (fun e => by have := l.b2; omega), hc.at h.h6 (fun e => by have := l.b6; omega), hc.at h.h7 (fun e => by have := l.b7; omega), h.sl.ch2 hc (fun k hk e => by have := l.row k hk; omega),
    fun i hi => hc.at (h.hV i hi) (fun e => by have := l.bV i hi; omega), fun i hi => hc.at (h.hC i hi) (fun e => by have := l.bC i (by omega); omega)⟩
theorem SB.far {BW : Nat} (l : LT n B2 B6 B7 A7 k7 Ls Vs BW) {i : Nat} (hi : i < n) : ¬ SB B6 Ls i BW := fun h => by
  rcases h with e | ⟨j, hj, e⟩
  · have := l.b6; omega
  · have := l.bC j (by omega); omega
end

end Go.Proofs.Ythnkmadipbfmaaa.LzL
