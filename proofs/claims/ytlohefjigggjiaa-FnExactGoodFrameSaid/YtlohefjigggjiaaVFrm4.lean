/- The program's GoodFrame: what it tells, in one. Conditions: a kind that is a number of 64 bits; the ranges are read. -/
import Derived.Test.YtlohefjigggjiaaVFrm3
import Derived.Test.YtlohefjigggjiaaPImplFx2
namespace Go.Proofs.YtlohefjigggjiaaV.Aes
open Go.RowKit Go.Proofs.YtlohefjigggjiaaV.PrintWords Go.Proofs.YtlohefjigggjiaaV.PrintLast Go.Proofs.YtlohefjigggjiaaV.PrintMore Go.Proofs.YtlohefjigggjiaaV.Mem
set_option linter.unusedVariables false
set_option linter.unusedSimpArgs false

def inB (lo hi x : Int) : Bool := decide (lo ≤ x) && decide (x ≤ hi)
def goodIF (k a b c : Int) (fin : Bool) (data : ByteArray) (n : Nat) (ro : Bool) : Bool :=
  if nmF k a b c fin data n = false then false else if k = 2 then (inB 1 20 (n : Int) && ro) else if k = 6 then okI (a + (data.size : Int)) else if k = 7 then !(decide (data.toList = ([] : List UInt8))) else if k = 8 then okI (b + (data.size : Int))
  else if k = 24 then (decide (b ≤ a) && inB 1 20 (data.size : Int) && decide (c ≤ 255)) else if k = 26 then decide ((data.size : Int) = 8) else if k = 27 then decide ((data.size : Int) = 8) else true
theorem frame_calls (k a b c : Int) (fin : Bool) (data : ByteArray) (A : Option Addr) (n cap : Nat) (ro : Bool) (w : World) (hw : (Lit.int .i64 k).wf = true)
    (hro : ∀ W, Below w.heap.size w W → Calls Try.prog 82 #[.slice A n cap] W fun e w' => e = .returned (.bool ro) ∧ Below W.heap.size W w') :
    Calls Try.prog 35 #[.agg #[.int .i64 k, .int .i64 a, .int .i64 b, .int .i64 c, .bool fin, .string data, .slice A n cap]] w (FrPost w (goodIF k a b c fin data n ro)) := by
  unfold goodIF
  cases hn : nmF k a b c fin data n with
  | false => rw [if_pos rfl]; exact frame_no k a b c fin data A n cap w hw hn
  | true =>
    rw [if_neg (by decide)]
    by_cases h2 : k = 2
    · rw [if_pos h2]
      subst h2
      unfold inB
      cases hin : (decide ((1 : Int) ≤ (n : Int)) && decide ((n : Int) ≤ 20)) with
      | false => exact frame_2a a b c fin data A n cap w hw hn hin.symm
      | true => exact frame_2b a b c fin data A n cap w hw hn hin.symm ro hro
    rw [if_neg h2]
    by_cases h6 : k = 6
    · rw [if_pos h6]; subst h6; exact frame_6 a b c fin data A n cap w hw hn
    rw [if_neg h6]
    by_cases h7 : k = 7
    · rw [if_pos h7]; subst h7; exact frame_7 a b c fin data A n cap w hw hn
    rw [if_neg h7]
    by_cases h8 : k = 8
    · rw [if_pos h8]; subst h8; exact frame_8 a b c fin data A n cap w hw hn
    rw [if_neg h8]
    by_cases h24 : k = 24
    · rw [if_pos h24]
      subst h24
      by_cases hba : b ≤ a
      · rw [decide_eq_true hba]
        unfold inB
        cases hin : (decide ((1 : Int) ≤ (data.size : Int)) && decide ((data.size : Int) ≤ 20)) with
        | false => exact frame_24b a b c fin data A n cap w hw hn hba hin.symm
        | true => exact frame_24c a b c fin data A n cap w hw hn hba hin.symm
      · rw [decide_eq_false hba]; exact frame_24a a b c fin data A n cap w hw hn hba
    rw [if_neg h24]
    by_cases h26 : k = 26
    · rw [if_pos h26]; subst h26; exact frame_26 a b c fin data A n cap w hw hn
    rw [if_neg h26]
    by_cases h27 : k = 27
    · rw [if_pos h27]; subst h27; exact frame_27 a b c fin data A n cap w hw hn
    rw [if_neg h27]
    exact frame_else k a b c fin data A n cap w hw hn ⟨h2, h6, h7, h8, h24, h26, h27⟩
theorem reads_map {α β : Type} {R : α → List Value → Prop} {R' : β → List Value → Prop} {sz : Nat} {w : World} {A : Option Addr} {n : Nat} {xs : List α} (f : α → β) (h : ReadsRow R sz w A n xs) (hf : ∀ x cs, R x cs → R' (f x) cs) : ReadsRow R' sz w A n (xs.map f) := by
  refine ⟨by rw [List.length_map]; exact h.1, h.2.1, fun hn => ?_⟩
  obtain ⟨ad, e, hc⟩ := h.2.2 hn
  refine ⟨ad, e, fun j p hp => ?_⟩
  rw [List.getElem?_map] at hp
  obtain ⟨x, hx, rfl⟩ := Option.map_eq_some_iff.mp hp
  obtain ⟨c, h1, h2, h3⟩ := hc j x hx
  exact ⟨c, h1, hf _ _ h2, h3⟩
def rgAt (L : List (Int × Int)) (i : Nat) : Bool := okI (L.getD i (0, 0)).1 && okI (L.getD i (0, 0)).2 && decide ((L.getD i (0, 0)).1 ≤ (L.getD i (0, 0)).2) && (decide (i = 0) || decide ((L.getD i (0, 0)).2 + 2 ≤ (L.getD (i - 1) (0, 0)).1))
def rgOk (L : List (Int × Int)) : Bool := (List.range L.length).all (rgAt L)
theorem range_drop (n i : Nat) (h : i < n) : (List.range n).drop i = i :: (List.range n).drop (i + 1) := by
  rw [List.drop_eq_getElem_cons (by simpa using h)]; simp
open Go.Proofs.Ytlohefjigggjiaa.PImplF
def prT (l : List S116) : List (Int × Int) := l.map fun x => (x.f0, x.f1)
theorem rdT (l : List S116) (i : Nat) : (rd_T116 l (i : Int)).f0 = ((prT l).getD i (0, 0)).1 ∧ (rd_T116 l (i : Int)).f1 = ((prT l).getD i (0, 0)).2 := by
  unfold rd_T116 prT
  rw [Int.toNat_natCast, List.getD_eq_getElem?_getD, List.getD_eq_getElem?_getD, List.getElem?_map]
  cases l[i]? <;> exact ⟨rfl, rfl⟩
theorem isv_f (x : Int) : impl_isVarint.f x = some (okI x) := by
  unfold impl_isVarint.f impl_in.f okI
  by_cases h : x ≥ 0
  · rw [if_pos h]; have h' : 0 ≤ x := h; simp [h']
  · rw [if_neg h]; have h' : ¬ 0 ≤ x := h; simp [h']
theorem rg_loop (l : List S116) (hl : l.length ≤ 1048576) : ∀ (m k i : Nat), l.length = i + m → m < k → impl_rangesOk.l0 k l l (l.length : Int) (i : Int) = some (((List.range l.length).drop i).all (rgAt (prT l)))
  | 0, k, i, hd, hk => by
    obtain ⟨k, rfl⟩ : ∃ m, k = m + 1 := ⟨k - 1, by omega⟩
    rw [impl_rangesOk.l0, if_neg (by omega), List.drop_eq_nil_of_le (by simp; omega)]
    rfl
  | m + 1, k, i, hd, hk => by
    obtain ⟨k, rfl⟩ : ∃ m, k = m + 1 := ⟨k - 1, by omega⟩
    have hi : i < l.length := by omega
    have e : wrap64 ((i : Int) + 1) = ((i + 1 : Nat) : Int) := by unfold wrap64; omega
    have ih := rg_loop l hl m k (i + 1) (by omega) (by omega)
    rw [impl_rangesOk.l0, if_pos (by omega), if_pos (by omega), if_pos (by omega), (rdT l i).1, (rdT l i).2, isv_f, isv_f, e, ih, range_drop _ i hi, List.all_cons]
    simp only [Option.bind_some]
    have hat : rgAt (prT l) i = (okI ((prT l).getD i (0, 0)).1 && okI ((prT l).getD i (0, 0)).2 && decide (((prT l).getD i (0, 0)).1 ≤ ((prT l).getD i (0, 0)).2) && (decide (i = 0) || decide (((prT l).getD i (0, 0)).2 + 2 ≤ ((prT l).getD (i - 1) (0, 0)).1))) := rfl
    rw [hat]
    cases h1 : okI ((prT l).getD i (0, 0)).1 with
    | false => rw [if_neg (by decide)]; simp
    | true =>
      rw [if_pos rfl]
      cases h2 : okI ((prT l).getD i (0, 0)).2 with
      | false => rw [if_neg (by decide)]; simp
      | true =>
        rw [if_pos rfl]
        have h2' := h2
        unfold okI at h2'
        rw [Bool.and_eq_true, decide_eq_true_iff, decide_eq_true_iff] at h2'
        by_cases h3 : ((prT l).getD i (0, 0)).1 > ((prT l).getD i (0, 0)).2
        · have h3' : ¬ ((prT l).getD i (0, 0)).1 ≤ ((prT l).getD i (0, 0)).2 := by omega
          rw [if_pos h3, decide_eq_false h3']; simp
        · have h3' : ((prT l).getD i (0, 0)).1 ≤ ((prT l).getD i (0, 0)).2 := by omega
          rw [if_neg h3, decide_eq_true h3']
          by_cases h0 : i = 0
          · rw [if_neg (show ¬ (i : Int) > 0 by omega), decide_eq_true h0]; simp
          · have e1 : wrap64 ((i : Int) - 1) = ((i - 1 : Nat) : Int) := by unfold wrap64; omega
            have e2 : wrap64 (((prT l).getD i (0, 0)).2 + 2) = ((prT l).getD i (0, 0)).2 + 2 := by unfold wrap64; omega
            rw [if_pos (show (i : Int) > 0 by omega), e1, if_pos (by omega), if_pos (by omega), (rdT l (i - 1)).1, e2, decide_eq_false h0]
            by_cases h4 : ((prT l).getD (i - 1) (0, 0)).1 < ((prT l).getD i (0, 0)).2 + 2
            · have h4' : ¬ ((prT l).getD i (0, 0)).2 + 2 ≤ ((prT l).getD (i - 1) (0, 0)).1 := by omega
              rw [if_pos h4, decide_eq_false h4']; simp
            · have h4' : ((prT l).getD i (0, 0)).2 + 2 ≤ ((prT l).getD (i - 1) (0, 0)).1 := by omega
              rw [if_neg h4, decide_eq_true h4']; simp
theorem rg_tells (k : Nat) (l : List S116) (hl : l.length ≤ 1048576) (hk : l.length < k) : impl_rangesOk.f k l = some (rgOk (prT l)) := by
  have h := rg_loop l hl l.length k 0 (by omega) hk
  unfold impl_rangesOk.f rgOk
  have e : (prT l).length = l.length := by unfold prT; rw [List.length_map]
  rw [e]
  simpa using h
def frameA (k a b c : Int) (fin : Bool) (data : ByteArray) (L : List (Int × Int)) : Option Bool :=
  if L.length ≤ 1048576 ∧ (Lit.int .i64 k).wf = true then some (goodIF k a b c fin data L.length (rgOk L)) else none
theorem frameA_calls (k a b c : Int) (fin : Bool) (data : ByteArray) (A : Option Addr) (cap : Nat) (L : List (Int × Int)) (r : Bool) (w : World) (hr : ReadsRow (fun (x : Int × Int) cs => cs = [Value.int .i64 x.1, Value.int .i64 x.2]) 2 w A L.length L) (hc : L.length ≤ cap) (h : frameA k a b c fin data L = some r) :
    Calls Try.prog 35 #[.agg #[.int .i64 k, .int .i64 a, .int .i64 b, .int .i64 c, .bool fin, .string data, .slice A L.length cap]] w fun e w' => e = .returned (.bool r) ∧ Below w.heap.size w w' := by
  unfold frameA at h
  by_cases hok : L.length ≤ 1048576 ∧ (Lit.int .i64 k).wf = true
  · rw [if_pos hok] at h
    injection h with h
    subst h
    have hlen : (L.map fun x => (⟨x.1, x.2⟩ : S116)).length = L.length := List.length_map ..
    have hpr : prT (L.map fun x => (⟨x.1, x.2⟩ : S116)) = L := by unfold prT; rw [List.map_map]; exact List.map_id L
    have hC : Kd.C k116 w A L.length (L.map fun x => (⟨x.1, x.2⟩ : S116)) := reads_map (R' := k116.K w) (fun x : Int × Int => (⟨x.1, x.2⟩ : S116)) hr (fun x cs hx => by rw [hx]; exact k116_mk w (⟨x.1, x.2⟩ : S116))
    refine frame_calls k a b c fin data A L.length cap (rgOk L) w hok.2 (fun W hB => ?_)
    have hC2 := Kd.C_below hC hB
    have h1 := rg_tells 1048577 (L.map fun x => (⟨x.1, x.2⟩ : S116)) (by omega) (by omega)
    rw [hpr] at h1
    have h2 := impl_rangesOk.calls 1048577 A cap (L.map fun x => (⟨x.1, x.2⟩ : S116)) (rgOk L) W (by rw [hlen]; exact hC2) (by omega) h1
    rw [hlen] at h2
    exact h2
  · rw [if_neg hok] at h; cases h
end Go.Proofs.YtlohefjigggjiaaV.Aes
