/- Shared lemmas and walks of the AES laws of this seat. -/
import Derived.Test.YtimokakcdmcnnaaVFourI
import Derived.Test.YtimokakcdmcnnaaPImplEx1
namespace Go.Proofs.YtimokakcdmcnnaaV.Aes
open Go.RowKit Go.Proofs.YtimokakcdmcnnaaV.PrintWords Go.Proofs.YtimokakcdmcnnaaV.PrintLast Go.Proofs.YtimokakcdmcnnaaV.PrintMore Go.Proofs.YtimokakcdmcnnaaV.Mem
set_option linter.unusedVariables false
set_option linter.unusedSimpArgs false

open Go.Proofs.Ytimokakcdmcnnaa.PImplE
/-- A config that is right; how its ids are made; the body of an id. -/
def GoodC (a b c : Int) (k : ByteArray) : Prop := (0 ≤ a ∧ a ≤ 6) ∧ (1 ≤ b ∧ b ≤ 15) ∧ (4 ≤ c ∧ c ≤ 18) ∧ b + c ≤ 19 ∧ (k.size = 0 ∨ k.size = 16)
instance (a b c : Int) (k : ByteArray) : Decidable (GoodC a b c k) := by unfold GoodC; infer_instance
theorem no_bytes (k : ByteArray) : k.toList = [] ↔ k.size = 0 := by
  rw [ByteArray.toList_eq]
  constructor
  · intro h
    have : k.data.toList.length = 0 := by rw [h]; rfl
    exact this
  · intro h
    exact List.eq_nil_of_length_eq_zero h
theorem good_told (a b c : Int) (k : ByteArray) (t : Bool) : impl_GoodConfig.f a b c k t = some (decide (GoodC a b c k)) := by
  unfold impl_GoodConfig.f impl_in.f impl_isKey.f
  by_cases h1 : 0 ≤ a
  · rw [if_pos h1, Option.bind_some]
    by_cases h2 : a ≤ 6
    · rw [decide_eq_true h2, if_pos rfl]
      by_cases h3 : 1 ≤ b
      · rw [if_pos h3, Option.bind_some]
        by_cases h4 : b ≤ 15
        · rw [decide_eq_true h4, if_pos rfl]
          by_cases h5 : 4 ≤ c
          · rw [if_pos h5, Option.bind_some]
            by_cases h6 : c ≤ 18
            · rw [decide_eq_true h6, if_pos rfl]
              have e : wrap64 (b + c) = b + c := by unfold wrap64; omega
              rw [e]
              by_cases h7 : b + c ≤ 19
              · rw [if_pos h7]
                by_cases h8 : k.size = 0
                · rw [if_pos ((no_bytes k).2 h8)]
                  congr 1
                  exact (decide_eq_true (show GoodC a b c k from ⟨⟨h1, h2⟩, ⟨h3, h4⟩, ⟨h5, h6⟩, h7, .inl h8⟩)).symm
                · rw [if_neg (fun e => h8 ((no_bytes k).1 e)), Option.bind_some]
                  congr 1
                  by_cases h9 : k.size = 16
                  · rw [decide_eq_true (show GoodC a b c k from ⟨⟨h1, h2⟩, ⟨h3, h4⟩, ⟨h5, h6⟩, h7, .inr h9⟩), h9]
                    rfl
                  · rw [decide_eq_false (show ¬ GoodC a b c k from fun h => h.2.2.2.2.elim h8 h9)]
                    simp; omega
              · rw [if_neg h7]
                congr 1
                exact (decide_eq_false (fun h : GoodC a b c k => h7 h.2.2.2.1)).symm
            · rw [decide_eq_false h6, if_neg (by decide)]
              congr 1
              exact (decide_eq_false (fun h : GoodC a b c k => h6 h.2.2.1.2)).symm
          · rw [if_neg h5, Option.bind_some, if_neg (by decide)]
            congr 1
            exact (decide_eq_false (fun h : GoodC a b c k => h5 h.2.2.1.1)).symm
        · rw [decide_eq_false h4, if_neg (by decide)]
          congr 1
          exact (decide_eq_false (fun h : GoodC a b c k => h4 h.2.1.2)).symm
      · rw [if_neg h3, Option.bind_some, if_neg (by decide)]
        congr 1
        exact (decide_eq_false (fun h : GoodC a b c k => h3 h.2.1.1)).symm
    · rw [decide_eq_false h2, if_neg (by decide)]
      congr 1
      exact (decide_eq_false (fun h : GoodC a b c k => h2 h.1.2)).symm
  · rw [if_neg h1, Option.bind_some, if_neg (by decide)]
    congr 1
    exact (decide_eq_false (fun h : GoodC a b c k => h1 h.1.1)).symm
theorem good_walk (a b c : Int) (k : ByteArray) (t : Bool) (w : World) : Calls Try.prog 79 #[.agg #[.int .i64 a, .int .i64 b, .int .i64 c, .string k, .bool t]] w fun e w' => e = .returned (.bool (decide (GoodC a b c k))) ∧ Below w.heap.size w w' :=
  impl_GoodConfig.calls a b c k t _ w (good_told a b c k t)
def kindN (b c : Int) (k : ByteArray) : Int := if k.size = 0 then 0 else if b + c = 16 then 1 else 2
theorem kind_told (a b c : Int) (k : ByteArray) (t : Bool) (hb : 0 ≤ b ∧ b ≤ 100) (hc : 0 ≤ c ∧ c ≤ 100) : impl_IdConfig_kind.f a b c k t = some (kindN b c k, a, b, c, k, t) := by
  have e : wrap64 (b + c) = b + c := by unfold wrap64; omega
  unfold impl_IdConfig_kind.f kindN
  rw [e]
  by_cases h : k.size = 0
  · rw [if_pos ((no_bytes k).2 h), if_pos h]
  · rw [if_neg (fun e => h ((no_bytes k).1 e)), if_neg h]
    split <;> rfl
def encBody (b c : Int) (k body : ByteArray) : ByteArray := if k.size = 0 then body else if b + c = 16 then encS k body else fourS k body [1, 2, 3, 4]
def encOut (a b c : Int) (k : ByteArray) (t : Bool) (s n : ByteArray) (sp : Int) : ByteArray := strOfNums (be 1 (a * 32 + if t = true then ((s ++ n).size : Int) else sp)) ++ encBody b c k (s ++ n)
def EncOk (a b c : Int) (k s n : ByteArray) (sp : Int) : Prop := GoodC a b c k ∧ (s.size : Int) = b ∧ (n.size : Int) = c ∧ 0 ≤ sp ∧ sp ≤ 31
instance (a b c : Int) (k s n : ByteArray) (sp : Int) : Decidable (EncOk a b c k s n sp) := by unfold EncOk; infer_instance
theorem cells37 {w0 W : World} {g : Nat} {a b c : Int} {k : ByteArray} {t : Bool} (h : IsS37 w0 W g a b c k t) : W.cell? ⟨g, 0, none⟩ = some (.int .i64 a) ∧ W.cell? ⟨g, 1, none⟩ = some (.int .i64 b) ∧ W.cell? ⟨g, 2, none⟩ = some (.int .i64 c) ∧ W.cell? ⟨g, 3, none⟩ = some (.string k) ∧ W.cell? ⟨g, 4, none⟩ = some (.bool t) := by
  refine ⟨?_, ?_, ?_, ?_, ?_⟩ <;> (simp only [World.cell?, h.1]; rfl)
theorem made37 (w : World) (a b c : Int) (k : ByteArray) (t : Bool) : IsS37 w (w.alloc (.cells #[.int .i64 a, .int .i64 b, .int .i64 c, .string k, .bool t] 37 (0, 0))) w.heap.size a b c k t := ⟨heap_alloc_new _ _, Nat.le_refl _⟩
theorem joinP_length (n h : Nat) (lr : List Int × List Int) (H : Lr n h lr) (hn : n = 2 * h - n % 2) (h0 : 0 < h) : (joinP n lr).length = n := by
  unfold joinP
  have l1 := H.l1
  have l2 := H.l2
  by_cases ho : n % 2 = 1
  · rw [if_pos ho, List.length_append, List.length_append, List.length_take, List.length_drop, List.length_singleton, l1, l2]; omega
  · rw [if_neg ho, List.length_append, l1, l2]; omega
theorem fourS_size (k s : ByteArray) (ps : List Nat) (h0 : 5 ≤ s.size) (hs : s.size ≤ 19) : (fourS k s ps).size = s.size := by
  unfold fourS
  rw [str_size]
  exact joinP_length s.size ((s.size + 1) / 2) _ (Lr.passes (by omega) k ps _ (Lr.cut s)) (by omega) (by omega)
set_option maxHeartbeats 4000000 in
set_option maxRecDepth 100000 in
theorem Enc_f0 (a b c : Int) (k s n : ByteArray) (sp : Int) (g : EncOk a b c k s n sp) (hk0 : k.size = 0) (w : World) :
    Calls Try.prog 44 #[.agg #[.int .i64 a, .int .i64 b, .int .i64 c, .string k, .bool false], .string s, .string n, .int .i64 sp] w (Told4 (strOfNums (be 1 (a * 32 + sp)) ++ (s ++ n)) true w) := by
  obtain ⟨hg, hsb, hnc, hs0, hs1⟩ := g
  have hHG := good_walk a b c k false
  rw [decide_eq_true hg] at hHG
  obtain ⟨⟨ha0, ha1⟩, ⟨hb0, hb1⟩, ⟨hc0, hc1⟩, hbc, hk⟩ := hg
  have hin := in4_yes sp 0 31 hs0 hs1
  have hkd := kind_told a b c k false ⟨by omega, by omega⟩ ⟨by omega, by omega⟩
  have hsz : (s ++ n).size = s.size + n.size := ByteArray.size_append
  have hcat : ¬ 9223372036854775807 < s.size + n.size := by omega
  have hne1 : ((s.size : Int) != b) = false := by simp [hsb]
  have hne2 : ((n.size : Int) != c) = false := by simp [hnc]
  have e1 : (s.size : Int) = b := hsb
  have e2 : (n.size : Int) = c := hnc
  have hbe : ∀ (x : Int) (W : World), Calls Try.prog 81 #[.int .u64 x, .int .i64 1] W fun e w' => e = .returned (.string (strOfNums (be 1 x))) ∧ Below W.heap.size W w' := fun x W => be_walk x 1 (by decide) W
  have hkw := fun (W : World) (g : Nat) (hI : IsS37 w W g a b c k false) (hB : Below w.heap.size w W) => impl_IdConfig_kind.calls g a b c k false (kindN b c k) a b c k false w W hI hB hkd
  have hm0 := made37 w a b c k false
  have hB0 := below_alloc (Below.refl w.heap.size w) (.cells #[.int .i64 a, .int .i64 b, .int .i64 c, .string k, .bool false] 37 (0, 0))
  have hxa : IntKind.i64.wrap (a * 32) = a * 32 := by rw [IntKind.wrap_i64]; omega
  have hkn : kindN b c k = 0 := if_pos hk0
  rw [hkn] at hkw
  have hc2 : ¬ 9223372036854775807 < (strOfNums (be 1 (a * 32 + sp))).size + (s.size + n.size) := by rw [str_size, be_length]; omega
  clear hkn hk hsz hkd hk0
  go_enter Try.func44, Try.ntmps44
  go_wp2_with (first
    | (go_at_call 79; refine (hHG _).mono ?_; rintro e w1 ⟨rfl, hb1⟩; have IS := hm0.below hb1; have HB := hB0.trans (hb1.mono hB0.size); obtain ⟨f0, f1, f2, f3, f4⟩ := cells37 IS; clear hm0 hB0 hb1)
    | (go_at_call 70; refine (hin _).mono ?_; rintro e w2 ⟨rfl, rfl⟩)
    | (go_at_call 80; refine (hkw _ _ IS HB).mono ?_; rintro e w3 ⟨rfl, IS', HB', _⟩; clear IS HB f0 f1 f2 f3 f4; have IS := IS'; have HB := HB'; clear IS' HB'; obtain ⟨f0, f1, f2, f3, f4⟩ := cells37 IS)
    | (go_at_call 54; refine (hci _).mono ?_; rintro e w5 ⟨gc, gb, gk, cap, rfl, hC, _, _, _, hb5⟩; have IS' := IS.below hb5; have HB' := HB.trans (hb5.mono HB.size); clear IS HB f0 f1 f2 f3 f4 hb5; have IS := IS'; have HB := HB'; clear IS' HB'; obtain ⟨f0, f1, f2, f3, f4⟩ := cells37 IS)
    | (go_at_call 59; refine (hec _ _ _ _ _ hC).mono ?_; rintro e w5 ⟨rfl, hb5⟩; have IS' := IS.below hb5; have HB' := HB.trans (hb5.mono HB.size); clear IS HB f0 f1 f2 f3 f4 hb5; have IS := IS'; have HB := HB'; clear IS' HB'; obtain ⟨f0, f1, f2, f3, f4⟩ := cells37 IS)
    | (go_at_call 74; refine (hfp _).mono ?_; rintro e w5 ⟨rfl, hb5⟩; have IS' := IS.below hb5; have HB' := HB.trans (hb5.mono HB.size); clear IS HB f0 f1 f2 f3 f4 hb5; have IS := IS'; have HB := HB'; clear IS' HB'; obtain ⟨f0, f1, f2, f3, f4⟩ := cells37 IS)
    | (go_at_call 81; refine (hbe _ _).mono ?_; rintro e w4 ⟨rfl, hb4⟩))
  go_ret2
  exact ⟨rfl, HB.trans (hb4.mono HB.size)⟩
set_option maxHeartbeats 4000000 in
set_option maxRecDepth 100000 in
theorem Enc_f1 (a b c : Int) (k s n : ByteArray) (sp : Int) (g : EncOk a b c k s n sp) (hk0 : k.size = 16) (h16 : b + c = 16) (w : World) :
    Calls Try.prog 44 #[.agg #[.int .i64 a, .int .i64 b, .int .i64 c, .string k, .bool false], .string s, .string n, .int .i64 sp] w (Told4 (strOfNums (be 1 (a * 32 + sp)) ++ (encS k (s ++ n))) true w) := by
  obtain ⟨hg, hsb, hnc, hs0, hs1⟩ := g
  have hHG := good_walk a b c k false
  rw [decide_eq_true hg] at hHG
  obtain ⟨⟨ha0, ha1⟩, ⟨hb0, hb1⟩, ⟨hc0, hc1⟩, hbc, hk⟩ := hg
  have hin := in4_yes sp 0 31 hs0 hs1
  have hkd := kind_told a b c k false ⟨by omega, by omega⟩ ⟨by omega, by omega⟩
  have hsz : (s ++ n).size = s.size + n.size := ByteArray.size_append
  have hcat : ¬ 9223372036854775807 < s.size + n.size := by omega
  have hne1 : ((s.size : Int) != b) = false := by simp [hsb]
  have hne2 : ((n.size : Int) != c) = false := by simp [hnc]
  have e1 : (s.size : Int) = b := hsb
  have e2 : (n.size : Int) = c := hnc
  have hbe : ∀ (x : Int) (W : World), Calls Try.prog 81 #[.int .u64 x, .int .i64 1] W fun e w' => e = .returned (.string (strOfNums (be 1 x))) ∧ Below W.heap.size W w' := fun x W => be_walk x 1 (by decide) W
  have hkw := fun (W : World) (g : Nat) (hI : IsS37 w W g a b c k false) (hB : Below w.heap.size w W) => impl_IdConfig_kind.calls g a b c k false (kindN b c k) a b c k false w W hI hB hkd
  have hm0 := made37 w a b c k false
  have hB0 := below_alloc (Below.refl w.heap.size w) (.cells #[.int .i64 a, .int .i64 b, .int .i64 c, .string k, .bool false] 37 (0, 0))
  have hxa : IntKind.i64.wrap (a * 32) = a * 32 := by rw [IntKind.wrap_i64]; omega
  have hk0' : ¬ k.size = 0 := by omega
  have hkn : kindN b c k = 1 := by unfold kindN; rw [if_neg hk0', if_pos h16]
  rw [hkn] at hkw
  have hci := cipher_made k hk0
  have hbz : (s ++ n).size = 16 := by omega
  have hec := fun (gc gb gk cap : Nat) (W : World) (hC : Ci W gc gb gk cap BX (KS k)) => enc_walk k (s ++ n) hk0 hbz gc gb gk cap W hC
  have hes := encS_size k (s ++ n)
  obtain ⟨E, hE⟩ : ∃ E, E = encS k (s ++ n) := ⟨_, rfl⟩
  rw [← hE] at hec hes ⊢
  have hc2 : ¬ 9223372036854775807 < (strOfNums (be 1 (a * 32 + sp))).size + E.size := by rw [str_size, be_length]; omega
  clear hE hes hbz hk0'
  clear hkn hk hsz hkd hk0 h16
  go_enter Try.func44, Try.ntmps44
  go_wp2_with (first
    | (go_at_call 79; refine (hHG _).mono ?_; rintro e w1 ⟨rfl, hb1⟩; have IS := hm0.below hb1; have HB := hB0.trans (hb1.mono hB0.size); obtain ⟨f0, f1, f2, f3, f4⟩ := cells37 IS; clear hm0 hB0 hb1)
    | (go_at_call 70; refine (hin _).mono ?_; rintro e w2 ⟨rfl, rfl⟩)
    | (go_at_call 80; refine (hkw _ _ IS HB).mono ?_; rintro e w3 ⟨rfl, IS', HB', _⟩; clear IS HB f0 f1 f2 f3 f4; have IS := IS'; have HB := HB'; clear IS' HB'; obtain ⟨f0, f1, f2, f3, f4⟩ := cells37 IS)
    | (go_at_call 54; refine (hci _).mono ?_; rintro e w5 ⟨gc, gb, gk, cap, rfl, hC, _, _, _, hb5⟩; have IS' := IS.below hb5; have HB' := HB.trans (hb5.mono HB.size); clear IS HB f0 f1 f2 f3 f4 hb5; have IS := IS'; have HB := HB'; clear IS' HB'; obtain ⟨f0, f1, f2, f3, f4⟩ := cells37 IS)
    | (go_at_call 59; refine (hec _ _ _ _ _ hC).mono ?_; rintro e w5 ⟨rfl, hb5⟩; have IS' := IS.below hb5; have HB' := HB.trans (hb5.mono HB.size); clear IS HB f0 f1 f2 f3 f4 hb5; have IS := IS'; have HB := HB'; clear IS' HB'; obtain ⟨f0, f1, f2, f3, f4⟩ := cells37 IS)
    | (go_at_call 74; refine (hfp _).mono ?_; rintro e w5 ⟨rfl, hb5⟩; have IS' := IS.below hb5; have HB' := HB.trans (hb5.mono HB.size); clear IS HB f0 f1 f2 f3 f4 hb5; have IS := IS'; have HB := HB'; clear IS' HB'; obtain ⟨f0, f1, f2, f3, f4⟩ := cells37 IS)
    | (go_at_call 81; refine (hbe _ _).mono ?_; rintro e w4 ⟨rfl, hb4⟩))
  go_ret2
  exact ⟨rfl, HB.trans (hb4.mono HB.size)⟩
set_option maxHeartbeats 4000000 in
set_option maxRecDepth 100000 in
theorem Enc_f2 (a b c : Int) (k s n : ByteArray) (sp : Int) (g : EncOk a b c k s n sp) (hk0 : k.size = 16) (h16 : ¬ b + c = 16) (w : World) :
    Calls Try.prog 44 #[.agg #[.int .i64 a, .int .i64 b, .int .i64 c, .string k, .bool false], .string s, .string n, .int .i64 sp] w (Told4 (strOfNums (be 1 (a * 32 + sp)) ++ (fourS k (s ++ n) [1, 2, 3, 4])) true w) := by
  obtain ⟨hg, hsb, hnc, hs0, hs1⟩ := g
  have hHG := good_walk a b c k false
  rw [decide_eq_true hg] at hHG
  obtain ⟨⟨ha0, ha1⟩, ⟨hb0, hb1⟩, ⟨hc0, hc1⟩, hbc, hk⟩ := hg
  have hin := in4_yes sp 0 31 hs0 hs1
  have hkd := kind_told a b c k false ⟨by omega, by omega⟩ ⟨by omega, by omega⟩
  have hsz : (s ++ n).size = s.size + n.size := ByteArray.size_append
  have hcat : ¬ 9223372036854775807 < s.size + n.size := by omega
  have hne1 : ((s.size : Int) != b) = false := by simp [hsb]
  have hne2 : ((n.size : Int) != c) = false := by simp [hnc]
  have e1 : (s.size : Int) = b := hsb
  have e2 : (n.size : Int) = c := hnc
  have hbe : ∀ (x : Int) (W : World), Calls Try.prog 81 #[.int .u64 x, .int .i64 1] W fun e w' => e = .returned (.string (strOfNums (be 1 x))) ∧ Below W.heap.size W w' := fun x W => be_walk x 1 (by decide) W
  have hkw := fun (W : World) (g : Nat) (hI : IsS37 w W g a b c k false) (hB : Below w.heap.size w W) => impl_IdConfig_kind.calls g a b c k false (kindN b c k) a b c k false w W hI hB hkd
  have hm0 := made37 w a b c k false
  have hB0 := below_alloc (Below.refl w.heap.size w) (.cells #[.int .i64 a, .int .i64 b, .int .i64 c, .string k, .bool false] 37 (0, 0))
  have hxa : IntKind.i64.wrap (a * 32) = a * 32 := by rw [IntKind.wrap_i64]; omega
  have hk0' : ¬ k.size = 0 := by omega
  have hkn : kindN b c k = 2 := by unfold kindN; rw [if_neg hk0', if_neg h16]
  rw [hkn] at hkw
  have hfp := fourPasses_walk k (s ++ n) hk0 (by omega) (by omega)
  have hes := fourS_size k (s ++ n) [1, 2, 3, 4] (by omega) (by omega)
  obtain ⟨E, hE⟩ : ∃ E, E = fourS k (s ++ n) [1, 2, 3, 4] := ⟨_, rfl⟩
  rw [← hE] at hfp hes ⊢
  have hc2 : ¬ 9223372036854775807 < (strOfNums (be 1 (a * 32 + sp))).size + E.size := by rw [str_size, be_length]; omega
  clear hE hes hk0'
  clear hkn hk hsz hkd hk0 h16
  go_enter Try.func44, Try.ntmps44
  go_wp2_with (first
    | (go_at_call 79; refine (hHG _).mono ?_; rintro e w1 ⟨rfl, hb1⟩; have IS := hm0.below hb1; have HB := hB0.trans (hb1.mono hB0.size); obtain ⟨f0, f1, f2, f3, f4⟩ := cells37 IS; clear hm0 hB0 hb1)
    | (go_at_call 70; refine (hin _).mono ?_; rintro e w2 ⟨rfl, rfl⟩)
    | (go_at_call 80; refine (hkw _ _ IS HB).mono ?_; rintro e w3 ⟨rfl, IS', HB', _⟩; clear IS HB f0 f1 f2 f3 f4; have IS := IS'; have HB := HB'; clear IS' HB'; obtain ⟨f0, f1, f2, f3, f4⟩ := cells37 IS)
    | (go_at_call 54; refine (hci _).mono ?_; rintro e w5 ⟨gc, gb, gk, cap, rfl, hC, _, _, _, hb5⟩; have IS' := IS.below hb5; have HB' := HB.trans (hb5.mono HB.size); clear IS HB f0 f1 f2 f3 f4 hb5; have IS := IS'; have HB := HB'; clear IS' HB'; obtain ⟨f0, f1, f2, f3, f4⟩ := cells37 IS)
    | (go_at_call 59; refine (hec _ _ _ _ _ hC).mono ?_; rintro e w5 ⟨rfl, hb5⟩; have IS' := IS.below hb5; have HB' := HB.trans (hb5.mono HB.size); clear IS HB f0 f1 f2 f3 f4 hb5; have IS := IS'; have HB := HB'; clear IS' HB'; obtain ⟨f0, f1, f2, f3, f4⟩ := cells37 IS)
    | (go_at_call 74; refine (hfp _).mono ?_; rintro e w5 ⟨rfl, hb5⟩; have IS' := IS.below hb5; have HB' := HB.trans (hb5.mono HB.size); clear IS HB f0 f1 f2 f3 f4 hb5; have IS := IS'; have HB := HB'; clear IS' HB'; obtain ⟨f0, f1, f2, f3, f4⟩ := cells37 IS)
    | (go_at_call 81; refine (hbe _ _).mono ?_; rintro e w4 ⟨rfl, hb4⟩))
  go_ret2
  exact ⟨rfl, HB.trans (hb4.mono HB.size)⟩
set_option maxHeartbeats 4000000 in
set_option maxRecDepth 100000 in
theorem Enc_t0 (a b c : Int) (k s n : ByteArray) (sp : Int) (g : EncOk a b c k s n sp) (hk0 : k.size = 0) (w : World) :
    Calls Try.prog 44 #[.agg #[.int .i64 a, .int .i64 b, .int .i64 c, .string k, .bool true], .string s, .string n, .int .i64 sp] w (Told4 (strOfNums (be 1 (a * 32 + (b + c))) ++ (s ++ n)) true w) := by
  obtain ⟨hg, hsb, hnc, hs0, hs1⟩ := g
  have hHG := good_walk a b c k true
  rw [decide_eq_true hg] at hHG
  obtain ⟨⟨ha0, ha1⟩, ⟨hb0, hb1⟩, ⟨hc0, hc1⟩, hbc, hk⟩ := hg
  have hin := in4_yes sp 0 31 hs0 hs1
  have hkd := kind_told a b c k true ⟨by omega, by omega⟩ ⟨by omega, by omega⟩
  have hsz : (s ++ n).size = s.size + n.size := ByteArray.size_append
  have hcat : ¬ 9223372036854775807 < s.size + n.size := by omega
  have hne1 : ((s.size : Int) != b) = false := by simp [hsb]
  have hne2 : ((n.size : Int) != c) = false := by simp [hnc]
  have e1 : (s.size : Int) = b := hsb
  have e2 : (n.size : Int) = c := hnc
  have hbe : ∀ (x : Int) (W : World), Calls Try.prog 81 #[.int .u64 x, .int .i64 1] W fun e w' => e = .returned (.string (strOfNums (be 1 x))) ∧ Below W.heap.size W w' := fun x W => be_walk x 1 (by decide) W
  have hkw := fun (W : World) (g : Nat) (hI : IsS37 w W g a b c k true) (hB : Below w.heap.size w W) => impl_IdConfig_kind.calls g a b c k true (kindN b c k) a b c k true w W hI hB hkd
  have hm0 := made37 w a b c k true
  have hB0 := below_alloc (Below.refl w.heap.size w) (.cells #[.int .i64 a, .int .i64 b, .int .i64 c, .string k, .bool true] 37 (0, 0))
  have hxa : IntKind.i64.wrap (a * 32) = a * 32 := by rw [IntKind.wrap_i64]; omega
  have hkn : kindN b c k = 0 := if_pos hk0
  rw [hkn] at hkw
  have hc2 : ¬ 9223372036854775807 < (strOfNums (be 1 (a * 32 + (b + c)))).size + (s.size + n.size) := by rw [str_size, be_length]; omega
  clear hkn hk hsz hkd hk0
  go_enter Try.func44, Try.ntmps44
  go_wp2_with (first
    | (go_at_call 79; refine (hHG _).mono ?_; rintro e w1 ⟨rfl, hb1⟩; have IS := hm0.below hb1; have HB := hB0.trans (hb1.mono hB0.size); obtain ⟨f0, f1, f2, f3, f4⟩ := cells37 IS; clear hm0 hB0 hb1)
    | (go_at_call 70; refine (hin _).mono ?_; rintro e w2 ⟨rfl, rfl⟩)
    | (go_at_call 80; refine (hkw _ _ IS HB).mono ?_; rintro e w3 ⟨rfl, IS', HB', _⟩; clear IS HB f0 f1 f2 f3 f4; have IS := IS'; have HB := HB'; clear IS' HB'; obtain ⟨f0, f1, f2, f3, f4⟩ := cells37 IS)
    | (go_at_call 54; refine (hci _).mono ?_; rintro e w5 ⟨gc, gb, gk, cap, rfl, hC, _, _, _, hb5⟩; have IS' := IS.below hb5; have HB' := HB.trans (hb5.mono HB.size); clear IS HB f0 f1 f2 f3 f4 hb5; have IS := IS'; have HB := HB'; clear IS' HB'; obtain ⟨f0, f1, f2, f3, f4⟩ := cells37 IS)
    | (go_at_call 59; refine (hec _ _ _ _ _ hC).mono ?_; rintro e w5 ⟨rfl, hb5⟩; have IS' := IS.below hb5; have HB' := HB.trans (hb5.mono HB.size); clear IS HB f0 f1 f2 f3 f4 hb5; have IS := IS'; have HB := HB'; clear IS' HB'; obtain ⟨f0, f1, f2, f3, f4⟩ := cells37 IS)
    | (go_at_call 74; refine (hfp _).mono ?_; rintro e w5 ⟨rfl, hb5⟩; have IS' := IS.below hb5; have HB' := HB.trans (hb5.mono HB.size); clear IS HB f0 f1 f2 f3 f4 hb5; have IS := IS'; have HB := HB'; clear IS' HB'; obtain ⟨f0, f1, f2, f3, f4⟩ := cells37 IS)
    | (go_at_call 81; refine (hbe _ _).mono ?_; rintro e w4 ⟨rfl, hb4⟩))
  go_ret2
  exact ⟨rfl, HB.trans (hb4.mono HB.size)⟩
set_option maxHeartbeats 4000000 in
set_option maxRecDepth 100000 in
theorem Enc_t1 (a b c : Int) (k s n : ByteArray) (sp : Int) (g : EncOk a b c k s n sp) (hk0 : k.size = 16) (h16 : b + c = 16) (w : World) :
    Calls Try.prog 44 #[.agg #[.int .i64 a, .int .i64 b, .int .i64 c, .string k, .bool true], .string s, .string n, .int .i64 sp] w (Told4 (strOfNums (be 1 (a * 32 + (b + c))) ++ (encS k (s ++ n))) true w) := by
  obtain ⟨hg, hsb, hnc, hs0, hs1⟩ := g
  have hHG := good_walk a b c k true
  rw [decide_eq_true hg] at hHG
  obtain ⟨⟨ha0, ha1⟩, ⟨hb0, hb1⟩, ⟨hc0, hc1⟩, hbc, hk⟩ := hg
  have hin := in4_yes sp 0 31 hs0 hs1
  have hkd := kind_told a b c k true ⟨by omega, by omega⟩ ⟨by omega, by omega⟩
  have hsz : (s ++ n).size = s.size + n.size := ByteArray.size_append
  have hcat : ¬ 9223372036854775807 < s.size + n.size := by omega
  have hne1 : ((s.size : Int) != b) = false := by simp [hsb]
  have hne2 : ((n.size : Int) != c) = false := by simp [hnc]
  have e1 : (s.size : Int) = b := hsb
  have e2 : (n.size : Int) = c := hnc
  have hbe : ∀ (x : Int) (W : World), Calls Try.prog 81 #[.int .u64 x, .int .i64 1] W fun e w' => e = .returned (.string (strOfNums (be 1 x))) ∧ Below W.heap.size W w' := fun x W => be_walk x 1 (by decide) W
  have hkw := fun (W : World) (g : Nat) (hI : IsS37 w W g a b c k true) (hB : Below w.heap.size w W) => impl_IdConfig_kind.calls g a b c k true (kindN b c k) a b c k true w W hI hB hkd
  have hm0 := made37 w a b c k true
  have hB0 := below_alloc (Below.refl w.heap.size w) (.cells #[.int .i64 a, .int .i64 b, .int .i64 c, .string k, .bool true] 37 (0, 0))
  have hxa : IntKind.i64.wrap (a * 32) = a * 32 := by rw [IntKind.wrap_i64]; omega
  have hk0' : ¬ k.size = 0 := by omega
  have hkn : kindN b c k = 1 := by unfold kindN; rw [if_neg hk0', if_pos h16]
  rw [hkn] at hkw
  have hci := cipher_made k hk0
  have hbz : (s ++ n).size = 16 := by omega
  have hec := fun (gc gb gk cap : Nat) (W : World) (hC : Ci W gc gb gk cap BX (KS k)) => enc_walk k (s ++ n) hk0 hbz gc gb gk cap W hC
  have hes := encS_size k (s ++ n)
  obtain ⟨E, hE⟩ : ∃ E, E = encS k (s ++ n) := ⟨_, rfl⟩
  rw [← hE] at hec hes ⊢
  have hc2 : ¬ 9223372036854775807 < (strOfNums (be 1 (a * 32 + (b + c)))).size + E.size := by rw [str_size, be_length]; omega
  clear hE hes hbz hk0'
  clear hkn hk hsz hkd hk0 h16
  go_enter Try.func44, Try.ntmps44
  go_wp2_with (first
    | (go_at_call 79; refine (hHG _).mono ?_; rintro e w1 ⟨rfl, hb1⟩; have IS := hm0.below hb1; have HB := hB0.trans (hb1.mono hB0.size); obtain ⟨f0, f1, f2, f3, f4⟩ := cells37 IS; clear hm0 hB0 hb1)
    | (go_at_call 70; refine (hin _).mono ?_; rintro e w2 ⟨rfl, rfl⟩)
    | (go_at_call 80; refine (hkw _ _ IS HB).mono ?_; rintro e w3 ⟨rfl, IS', HB', _⟩; clear IS HB f0 f1 f2 f3 f4; have IS := IS'; have HB := HB'; clear IS' HB'; obtain ⟨f0, f1, f2, f3, f4⟩ := cells37 IS)
    | (go_at_call 54; refine (hci _).mono ?_; rintro e w5 ⟨gc, gb, gk, cap, rfl, hC, _, _, _, hb5⟩; have IS' := IS.below hb5; have HB' := HB.trans (hb5.mono HB.size); clear IS HB f0 f1 f2 f3 f4 hb5; have IS := IS'; have HB := HB'; clear IS' HB'; obtain ⟨f0, f1, f2, f3, f4⟩ := cells37 IS)
    | (go_at_call 59; refine (hec _ _ _ _ _ hC).mono ?_; rintro e w5 ⟨rfl, hb5⟩; have IS' := IS.below hb5; have HB' := HB.trans (hb5.mono HB.size); clear IS HB f0 f1 f2 f3 f4 hb5; have IS := IS'; have HB := HB'; clear IS' HB'; obtain ⟨f0, f1, f2, f3, f4⟩ := cells37 IS)
    | (go_at_call 74; refine (hfp _).mono ?_; rintro e w5 ⟨rfl, hb5⟩; have IS' := IS.below hb5; have HB' := HB.trans (hb5.mono HB.size); clear IS HB f0 f1 f2 f3 f4 hb5; have IS := IS'; have HB := HB'; clear IS' HB'; obtain ⟨f0, f1, f2, f3, f4⟩ := cells37 IS)
    | (go_at_call 81; refine (hbe _ _).mono ?_; rintro e w4 ⟨rfl, hb4⟩))
  go_ret2
  exact ⟨rfl, HB.trans (hb4.mono HB.size)⟩
set_option maxHeartbeats 4000000 in
set_option maxRecDepth 100000 in
theorem Enc_t2 (a b c : Int) (k s n : ByteArray) (sp : Int) (g : EncOk a b c k s n sp) (hk0 : k.size = 16) (h16 : ¬ b + c = 16) (w : World) :
    Calls Try.prog 44 #[.agg #[.int .i64 a, .int .i64 b, .int .i64 c, .string k, .bool true], .string s, .string n, .int .i64 sp] w (Told4 (strOfNums (be 1 (a * 32 + (b + c))) ++ (fourS k (s ++ n) [1, 2, 3, 4])) true w) := by
  obtain ⟨hg, hsb, hnc, hs0, hs1⟩ := g
  have hHG := good_walk a b c k true
  rw [decide_eq_true hg] at hHG
  obtain ⟨⟨ha0, ha1⟩, ⟨hb0, hb1⟩, ⟨hc0, hc1⟩, hbc, hk⟩ := hg
  have hin := in4_yes sp 0 31 hs0 hs1
  have hkd := kind_told a b c k true ⟨by omega, by omega⟩ ⟨by omega, by omega⟩
  have hsz : (s ++ n).size = s.size + n.size := ByteArray.size_append
  have hcat : ¬ 9223372036854775807 < s.size + n.size := by omega
  have hne1 : ((s.size : Int) != b) = false := by simp [hsb]
  have hne2 : ((n.size : Int) != c) = false := by simp [hnc]
  have e1 : (s.size : Int) = b := hsb
  have e2 : (n.size : Int) = c := hnc
  have hbe : ∀ (x : Int) (W : World), Calls Try.prog 81 #[.int .u64 x, .int .i64 1] W fun e w' => e = .returned (.string (strOfNums (be 1 x))) ∧ Below W.heap.size W w' := fun x W => be_walk x 1 (by decide) W
  have hkw := fun (W : World) (g : Nat) (hI : IsS37 w W g a b c k true) (hB : Below w.heap.size w W) => impl_IdConfig_kind.calls g a b c k true (kindN b c k) a b c k true w W hI hB hkd
  have hm0 := made37 w a b c k true
  have hB0 := below_alloc (Below.refl w.heap.size w) (.cells #[.int .i64 a, .int .i64 b, .int .i64 c, .string k, .bool true] 37 (0, 0))
  have hxa : IntKind.i64.wrap (a * 32) = a * 32 := by rw [IntKind.wrap_i64]; omega
  have hk0' : ¬ k.size = 0 := by omega
  have hkn : kindN b c k = 2 := by unfold kindN; rw [if_neg hk0', if_neg h16]
  rw [hkn] at hkw
  have hfp := fourPasses_walk k (s ++ n) hk0 (by omega) (by omega)
  have hes := fourS_size k (s ++ n) [1, 2, 3, 4] (by omega) (by omega)
  obtain ⟨E, hE⟩ : ∃ E, E = fourS k (s ++ n) [1, 2, 3, 4] := ⟨_, rfl⟩
  rw [← hE] at hfp hes ⊢
  have hc2 : ¬ 9223372036854775807 < (strOfNums (be 1 (a * 32 + (b + c)))).size + E.size := by rw [str_size, be_length]; omega
  clear hE hes hk0'
  clear hkn hk hsz hkd hk0 h16
  go_enter Try.func44, Try.ntmps44
  go_wp2_with (first
    | (go_at_call 79; refine (hHG _).mono ?_; rintro e w1 ⟨rfl, hb1⟩; have IS := hm0.below hb1; have HB := hB0.trans (hb1.mono hB0.size); obtain ⟨f0, f1, f2, f3, f4⟩ := cells37 IS; clear hm0 hB0 hb1)
    | (go_at_call 70; refine (hin _).mono ?_; rintro e w2 ⟨rfl, rfl⟩)
    | (go_at_call 80; refine (hkw _ _ IS HB).mono ?_; rintro e w3 ⟨rfl, IS', HB', _⟩; clear IS HB f0 f1 f2 f3 f4; have IS := IS'; have HB := HB'; clear IS' HB'; obtain ⟨f0, f1, f2, f3, f4⟩ := cells37 IS)
    | (go_at_call 54; refine (hci _).mono ?_; rintro e w5 ⟨gc, gb, gk, cap, rfl, hC, _, _, _, hb5⟩; have IS' := IS.below hb5; have HB' := HB.trans (hb5.mono HB.size); clear IS HB f0 f1 f2 f3 f4 hb5; have IS := IS'; have HB := HB'; clear IS' HB'; obtain ⟨f0, f1, f2, f3, f4⟩ := cells37 IS)
    | (go_at_call 59; refine (hec _ _ _ _ _ hC).mono ?_; rintro e w5 ⟨rfl, hb5⟩; have IS' := IS.below hb5; have HB' := HB.trans (hb5.mono HB.size); clear IS HB f0 f1 f2 f3 f4 hb5; have IS := IS'; have HB := HB'; clear IS' HB'; obtain ⟨f0, f1, f2, f3, f4⟩ := cells37 IS)
    | (go_at_call 74; refine (hfp _).mono ?_; rintro e w5 ⟨rfl, hb5⟩; have IS' := IS.below hb5; have HB' := HB.trans (hb5.mono HB.size); clear IS HB f0 f1 f2 f3 f4 hb5; have IS := IS'; have HB := HB'; clear IS' HB'; obtain ⟨f0, f1, f2, f3, f4⟩ := cells37 IS)
    | (go_at_call 81; refine (hbe _ _).mono ?_; rintro e w4 ⟨rfl, hb4⟩))
  go_ret2
  exact ⟨rfl, HB.trans (hb4.mono HB.size)⟩
end Go.Proofs.YtimokakcdmcnnaaV.Aes
