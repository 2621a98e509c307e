/- Shared lemmas and walks of the AES laws of this seat. -/
import Derived.Test.YtimokakcdmcnnaaVAes1
namespace Go.Proofs.YtimokakcdmcnnaaV.Aes
open Go.RowKit Go.Proofs.YtimokakcdmcnnaaV.PrintWords Go.Proofs.YtimokakcdmcnnaaV.PrintLast Go.Proofs.YtimokakcdmcnnaaV.PrintMore Go.Proofs.YtimokakcdmcnnaaV.Mem
set_option linter.unusedVariables false
set_option linter.unusedSimpArgs false

/-- So many numbers, by their places. -/
def tab (n : Nat) (f : Nat → Int) : List Int := (List.range n).map f
theorem tab_length (n : Nat) (f : Nat → Int) : (tab n f).length = n := by simp [tab]
theorem rd_at (l : List Int) (i : Nat) (h : i < l.length) : rd l (i : Int) = l[i] := by
  simp [rd, List.getD_eq_getElem?_getD, List.getElem?_eq_getElem h]
theorem rd_tab (n : Nat) (f : Nat → Int) (i : Nat) (h : i < n) : rd (tab n f) (i : Int) = f i := by
  rw [rd_at _ _ (by rw [tab_length]; exact h)]
  simp [tab]
theorem tab_step (n : Nat) (f : Nat → Int) (b z : List Int) (hb : b.length = n) (i : Nat) (h : i < n) :
    ((tab n f).take i ++ b.drop i ++ z).set i (f i) = (tab n f).take (i + 1) ++ b.drop (i + 1) ++ z := by
  have hl : ((tab n f).take i).length = i := by rw [List.length_take, tab_length]; omega
  have hv : (tab n f)[i]'(by rw [tab_length]; exact h) = f i := by simp [tab]
  rw [List.take_succ_eq_append_getElem (by rw [tab_length]; exact h), hv, List.append_assoc, List.set_append_right _ _ (by omega), hl, Nat.sub_self,
    List.drop_eq_getElem_cons (by omega : i < b.length), List.cons_append, List.set_cons_zero]
  simp only [List.append_assoc, List.cons_append, List.nil_append]
theorem tab_rest (n : Nat) (f : Nat → Int) (b z : List Int) (hb : b.length = n) (i j : Nat) (h : i ≤ j) (hj : j < n) :
    rd ((tab n f).take i ++ b.drop i ++ z) (j : Int) = rd b (j : Int) := by
  have hl : ((tab n f).take i).length = i := by rw [List.length_take, tab_length]; omega
  rw [rd_at _ _ (by simp [tab_length]; omega), rd_at _ _ (by omega)]
  rw [List.getElem_append_left (by simp [tab_length]; omega), List.getElem_append_right (by omega), List.getElem_drop]
  congr 1
  omega
theorem tab_start (n : Nat) (f : Nat → Int) (b z : List Int) : (tab n f).take 0 ++ b.drop 0 ++ z = b ++ z := by simp
theorem tab_end (n : Nat) (f : Nat → Int) (b z : List Int) (hb : b.length = n) : (tab n f).take n ++ b.drop n ++ z = tab n f ++ z := by
  rw [List.take_of_length_le (by rw [tab_length]; exact Nat.le_refl _), List.drop_eq_nil_of_le (by omega), List.append_nil]
theorem tab_both (n : Nat) (f : Nat → Int) (b z : List Int) (hb : b.length = n) (i : Nat) (h : i ≤ n) : ((tab n f).take i ++ b.drop i ++ z).length = n + z.length := by
  simp [tab_length]; omega
/-- Numbers that are bytes. -/
def Bt (l : List Int) : Prop := ∀ x ∈ l, 0 ≤ x ∧ x < 256
theorem Bt.tab {n : Nat} {f : Nat → Int} (h : ∀ i, i < n → 0 ≤ f i ∧ f i < 256) : Bt (tab n f) := by
  intro x hx
  simp only [Aes.tab, List.mem_map, List.mem_range] at hx
  obtain ⟨i, hi, rfl⟩ := hx
  exact h i hi
theorem Bt.rd {l : List Int} (h : Bt l) (j : Nat) : 0 ≤ rd l (j : Int) ∧ rd l (j : Int) < 256 := by
  by_cases hj : j < l.length
  · rw [rd_at l j hj]; exact h _ (List.getElem_mem hj)
  · have e : PrintWords.rd l (j : Int) = 0 := by simp [PrintWords.rd, List.getD_eq_getElem?_getD, List.getElem?_eq_none (by omega : l.length ≤ j)]
    rw [e]; omega
theorem Bt.append {a b : List Int} (h : Bt a) (k : Bt b) : Bt (a ++ b) := fun x hx => (List.mem_append.mp hx).elim (h x) (k x)
theorem Bt.take {a : List Int} (h : Bt a) (n : Nat) : Bt (a.take n) := fun x hx => h x (List.mem_of_mem_take hx)
theorem Bt.drop {a : List Int} (h : Bt a) (n : Nat) : Bt (a.drop n) := fun x hx => h x (List.mem_of_mem_drop hx)
theorem Bt.zeros (n : Nat) : Bt (List.replicate n 0) := fun x hx => by have := List.eq_of_mem_replicate hx; omega
theorem Bt.bytes (s : ByteArray) : Bt (bytesOf s) := by
  intro x h
  unfold bytesOf at h
  simp only [List.mem_map] at h
  obtain ⟨b, _, rfl⟩ := h
  have := b.toNat_lt
  omega
/-- A block xored with the keys of a round. -/
def addKL (ks : List Int) (r : Nat) (b : List Int) : List Int := tab 16 fun i => Go.bits .xor .u8 (rd b (i : Int)) (rd ks ((16 * r + i : Nat) : Int))
/-- The bytes of a block, moved. -/
def shiftL (m : Nat) (b : List Int) : List Int := tab 16 fun i => rd b ((4 * ((i / 4 + m * (i % 4)) % 4) + i % 4 : Nat) : Int)
/-- What the bytes of a block become, by a table. -/
def mapL (T : List Int) (b : List Int) : List Int := tab 16 fun i => rd T (rd b (i : Int))
/-- Four bytes, from a place on, mixed. -/
def mixAt (f : List Int) (o : Nat) (l : List Int) : List Int := l.take o ++ mixL M f ((l.drop o).take 4) ++ l.drop (o + 4)
def mixN (f l : List Int) : Nat → List Int
  | 0 => l
  | c + 1 => mixAt f (4 * c) (mixN f l c)
theorem mixL_length (f s : List Int) : (mixL M f s).length = 4 := rfl
theorem mixAt_length (f : List Int) (o : Nat) (l : List Int) (h : o + 4 ≤ l.length) : (mixAt f o l).length = l.length := by
  simp [mixAt, mixL_length]; omega
theorem mixN_length (f l : List Int) (hl : l.length = 16) : ∀ c, c ≤ 4 → (mixN f l c).length = 16
  | 0, _ => hl
  | c + 1, h => by
    have := mixN_length f l hl c (by omega)
    show (mixAt f (4 * c) (mixN f l c)).length = 16
    rw [mixAt_length _ _ _ (by omega), this]
theorem mixAt_tail (f : List Int) (o : Nat) (b z : List Int) (h : o + 4 ≤ b.length) : mixAt f o (b ++ z) = mixAt f o b ++ z := by
  unfold mixAt
  rw [List.take_append_of_le_length (by omega), List.drop_append_of_le_length (by omega), List.take_append_of_le_length (by rw [List.length_drop]; omega), List.drop_append_of_le_length (by omega)]
  simp only [List.append_assoc]
theorem mixI_range (f s : List Int) (i : Nat) : ∀ m, 0 ≤ mixI M f s i m ∧ mixI M f s i m < 256
  | 0 => ⟨Int.le_refl 0, (by decide : (0 : Int) < 256)⟩
  | m + 1 => xor_u8_range _ _
theorem mixL_bt (f s : List Int) : Bt (mixL M f s) := by
  intro x hx
  simp only [mixL, List.mem_cons, List.not_mem_nil, or_false] at hx
  rcases hx with rfl | rfl | rfl | rfl <;> exact mixI_range _ _ _ _
theorem mixAt_bt (f : List Int) (o : Nat) (l : List Int) (h : Bt l) : Bt (mixAt f o l) := ((h.take o).append (mixL_bt _ _)).append (h.drop _)
theorem mixN_bt (f l : List Int) (h : Bt l) : ∀ c, Bt (mixN f l c)
  | 0 => h
  | c + 1 => mixAt_bt _ _ _ (mixN_bt f l h c)
theorem addKL_bt (ks : List Int) (r : Nat) (b : List Int) : Bt (addKL ks r b) := Bt.tab fun _ _ => xor_u8_range _ _
theorem shiftL_bt (m : Nat) (b : List Int) (h : Bt b) : Bt (shiftL m b) := Bt.tab fun _ _ => h.rd _
theorem mapL_bt (T b : List Int) (hT : Bt T) (h : Bt b) : Bt (mapL T b) := Bt.tab fun i _ => by
  obtain ⟨n, hn⟩ := Int.eq_ofNat_of_zero_le (h.rd i).1
  rw [hn]; exact hT.rd n
/-- A block behind a round's bytes, moves and mixing; behind rounds. -/
def encMid (T : List Int) (r : Nat) (b : List Int) : List Int := if r < 10 then mixN [2, 3, 1, 1] (shiftL 1 (mapL T b)) 4 else shiftL 1 (mapL T b)
def encN (ks T b : List Int) : Nat → List Int
  | 0 => addKL ks 0 b
  | r + 1 => addKL ks (r + 1) (encMid T (r + 1) (encN ks T b r))
/-- A block before a round: n rounds taken back. -/
def decMid (ks : List Int) (r : Nat) (b : List Int) : List Int := if r < 10 then mixN [14, 11, 13, 9] (addKL ks r b) 4 else addKL ks r b
def decN (ks T b : List Int) : Nat → List Int
  | 0 => b
  | n + 1 => mapL T (shiftL 3 (decMid ks (10 - n) (decN ks T b n)))
theorem addKL_length (ks : List Int) (r : Nat) (b : List Int) : (addKL ks r b).length = 16 := tab_length _ _
theorem shiftL_length (m : Nat) (b : List Int) : (shiftL m b).length = 16 := tab_length _ _
theorem mapL_length (T b : List Int) : (mapL T b).length = 16 := tab_length _ _
theorem encMid_length (T : List Int) (r : Nat) (b : List Int) : (encMid T r b).length = 16 := by
  unfold encMid; split
  · exact mixN_length _ _ (shiftL_length _ _) 4 (by decide)
  · exact shiftL_length _ _
theorem decMid_length (ks : List Int) (r : Nat) (b : List Int) : (decMid ks r b).length = 16 := by
  unfold decMid; split
  · exact mixN_length _ _ (addKL_length _ _ _) 4 (by decide)
  · exact addKL_length _ _ _
theorem encN_length (ks T b : List Int) : ∀ r, (encN ks T b r).length = 16
  | 0 => addKL_length _ _ _
  | _ + 1 => addKL_length _ _ _
theorem decN_length (ks T b : List Int) (hb : b.length = 16) : ∀ n, (decN ks T b n).length = 16
  | 0 => hb
  | _ + 1 => mapL_length _ _
theorem encN_bt (ks T b : List Int) : ∀ r, Bt (encN ks T b r)
  | 0 => addKL_bt _ _ _
  | _ + 1 => addKL_bt _ _ _
theorem decN_bt (ks T b : List Int) (hb : Bt b) (hT : Bt T) : ∀ n, Bt (decN ks T b n)
  | 0 => hb
  | n + 1 => mapL_bt _ _ hT (shiftL_bt _ _ (by
      unfold decMid; split
      · exact mixN_bt _ _ (addKL_bt _ _ _) _
      · exact addKL_bt _ _ _))
/-- The round keys of a key, and the factor of rounds, behind so many words more. -/
def keysAt (T key : List Int) : Nat → List Int × Int
  | 0 => (key, 1)
  | n + 1 =>
    let w := (keysAt T key n).1
    let y := (keysAt T key n).2
    let o := 16 + 4 * n
    let t : List Int := if (n + 4) % 4 = 0 then [Go.bits .xor .u8 (rd T (rd w ((o - 3 : Nat) : Int))) y, rd T (rd w ((o - 2 : Nat) : Int)), rd T (rd w ((o - 1 : Nat) : Int)), rd T (rd w ((o - 4 : Nat) : Int))]
      else [rd w ((o - 4 : Nat) : Int), rd w ((o - 3 : Nat) : Int), rd w ((o - 2 : Nat) : Int), rd w ((o - 1 : Nat) : Int)]
    (w ++ tab 4 (fun k => Go.bits .xor .u8 (rd w ((4 * n + k : Nat) : Int)) (rd t (k : Int))), if (n + 4) % 4 = 0 then M y 2 else y)
theorem keysAt_length (T key : List Int) (h : key.length = 16) : ∀ n, (keysAt T key n).1.length = 16 + 4 * n
  | 0 => h
  | n + 1 => by
    have := keysAt_length T key h n
    simp only [keysAt, List.length_append, tab_length]
    omega
theorem keysAt_bt (T key : List Int) (h : Bt key) : ∀ n, Bt (keysAt T key n).1
  | 0 => h
  | n + 1 => (keysAt_bt T key h n).append (Bt.tab fun _ _ => xor_u8_range _ _)
theorem keysAt_by (T key : List Int) : ∀ n, 0 ≤ (keysAt T key n).2 ∧ (keysAt T key n).2 < 256
  | 0 => ⟨(by decide : (0 : Int) ≤ 1), (by decide : (1 : Int) < 256)⟩
  | n + 1 => by
    simp only [keysAt]
    split
    · exact M_range _ _ (by decide) (by decide)
    · exact keysAt_by T key n
end Go.Proofs.YtimokakcdmcnnaaV.Aes
