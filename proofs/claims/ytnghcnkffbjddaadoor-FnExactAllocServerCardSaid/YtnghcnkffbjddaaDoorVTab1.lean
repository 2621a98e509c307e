/- Sets of texts in memory (map[string]bool), and what a good entry is, over lists. Conditions: texts of at most 1048576 bytes. -/
import Derived.Test.YtnghcnkffbjddaaDoorVWb
import Derived.Test.YtnghcnkffbjddaaDoorPImplGx1
import Derived.Maps.OwnOps
import Derived.Maps.OwnSet
import Derived.Maps.Views
namespace Go.Proofs.YtnghcnkffbjddaaDoorV.Aes
open Go.RowKit Go.Proofs.YtnghcnkffbjddaaDoorV.PrintWords Go.Proofs.YtnghcnkffbjddaaDoorV.PrintLast Go.Proofs.YtnghcnkffbjddaaDoorV.PrintMore Go.Proofs.YtnghcnkffbjddaaDoorV.Mem
set_option linter.unusedVariables false
set_option linter.unusedSimpArgs false

open Go.Maps Go.WideShapes
def boolEl (v : Value) : Option (DataW Unit × List MemPlace) :=
  match v with
  | .bool b => some (.lit (.bool b), [])
  | _ => none
theorem boolEl_mk (b : Bool) : boolEl (.bool b) = some (.lit (.bool b), []) := rfl
theorem boolEl_inv {v : Value} {z : DataW Unit × List MemPlace} (h : boolEl v = some z) : ∃ b, v = .bool b ∧ z = (.lit (.bool b), []) := by
  unfold boolEl at h
  split at h
  · rename_i b
    exact ⟨b, rfl, (Option.some.inj h).symm⟩
  · cases h
theorem keyS : Keyed Tryd.prog 9 := string_keyed Tryd.underlying9
theorem zeroB (w : World) : (zeroValue 4).run Tryd.prog w = .ok (.bool false) w := by kernel_rfl
def litS (s : ByteArray) : Lit := .string s.data.toList
theorem litS_ne {s t : ByteArray} (h : s ≠ t) : litS s ≠ litS t := fun e => h (by
  unfold litS at e
  injection e with e
  cases s; cases t
  congr 1
  exact Array.ext' e)
theorem isKeyS {s : ByteArray} : WideAt.IsKeyLit (litS s) := trivial
theorem keyOfS (s : ByteArray) (h : s.size ≤ 1048576) : keyOf Tryd.prog 9 (.string s) = some (litS s) := WideMaps.keyOf_string_mk Tryd.underlying9 (by unfold maxLen; omega)
def memS (S : List ByteArray) (s : ByteArray) : Bool := S.any fun t => t.data.toList == s.data.toList
theorem memS_iff (S : List ByteArray) (s : ByteArray) : memS S s = true ↔ s ∈ S := by
  unfold memS
  rw [List.any_eq_true]
  constructor
  · rintro ⟨t, ht, e⟩
    have e := beq_iff_eq.mp e
    have : t = s := by cases t; cases s; congr 1; exact Array.ext' e
    rw [← this]; exact ht
  · intro h; exact ⟨s, h, by simp⟩
/-- Block b is a set that holds the texts of S, laid by at most n stores. -/
def SeenIs (W : World) (b n : Nat) (S : List ByteArray) : Prop := ∃ D : DataW Unit, W.ownsMap Tryd.prog 9 boolEl b n D ∧ ∀ s : ByteArray, D.atKey (litS s) (.lit (.bool false)) = .lit (.bool (memS S s))
theorem seen_made (w : World) : SeenIs (w.alloc (.map #[] 0)) w.heap.size 0 [] := ⟨.map [], World.ownsMap_made _ _ _ _, fun s => rfl⟩
theorem seen_lt {W : World} {b n : Nat} {S : List ByteArray} (h : SeenIs W b n S) : b < W.heap.size := by
  obtain ⟨D, ho, _⟩ := h
  exact ho.lt
theorem seen_below {W W' : World} {b n B : Nat} {S : List ByteArray} (h : SeenIs W b n S) (hB : Below B W W') (hb : b < B) : SeenIs W' b n S := by
  obtain ⟨D, ⟨es, clock, hh, F, hs, e⟩, hat⟩ := h
  exact ⟨D, ⟨es, clock, (hB.block b hb).trans hh, F, hs, e⟩, hat⟩
set_option maxRecDepth 100000 in
theorem seen_look {W : World} {b n : Nat} {S : List ByteArray} (h : SeenIs W b n S) (s : ByteArray) (hs : s.size ≤ 1048576) : (Instr.lookup 106 (.map (some b)) (.string s) false).run Tryd.prog W = .ok (.bool (memS S s)) W := by
  obtain ⟨D, ho, hat⟩ := h
  obtain ⟨v, ps, hrun, hv⟩ := ho.lookup keyS Tryd.underlying106 (zeroB W) (boolEl_mk false) (keyOfS s hs)
  rw [hat s] at hv
  obtain ⟨b', rfl, hz⟩ := boolEl_inv hv
  have hz1 := (Prod.mk.inj hz).1
  have hz2 : memS S s = b' := by simpa using hz1
  rw [hz2]
  exact hrun
theorem seen_put {W : World} {b n : Nat} {S S' : List ByteArray} {D : DataW Unit} (s : ByteArray) (hat : ∀ s : ByteArray, D.atKey (litS s) (.lit (.bool false)) = .lit (.bool (memS S s))) (hm : IsMap D)
    (ho : W.ownsMap Tryd.prog 9 boolEl b n (D.put (litS s) (.lit (.bool true)))) (hS : ∀ t, t ∈ S' ↔ t = s ∨ t ∈ S) : SeenIs W b n S' := by
  refine ⟨_, ho, fun t => ?_⟩
  by_cases h : t = s
  · subst h
    rw [atKey_put_same hm isKeyS, (memS_iff _ _).mpr ((hS t).mpr (.inl rfl))]
  · rw [atKey_put_other (litS_ne h), hat t]
    have e : memS S t = memS S' t := by
      rw [Bool.eq_iff_iff, memS_iff, memS_iff]
      exact ⟨fun q => (hS t).mpr (.inr q), fun q => ((hS t).mp q).resolve_left h⟩
    rw [e]
open Go.Proofs.YtnghcnkffbjddaaDoor.PImplG
def okB (b : UInt8) : Bool := (decide (97 ≤ b.toNat) && decide (b.toNat ≤ 122)) || (decide (48 ≤ b.toNat) && decide (b.toNat ≤ 57))
def goodS (s : ByteArray) : Bool := (decide (1 ≤ s.size) && decide (s.size ≤ 12)) && s.data.toList.all okB
def cutL : List UInt8 := [97, 98, 99, 100, 101, 102, 103, 104, 105, 106, 107, 108, 109, 110, 111, 112, 113, 114, 115, 116, 117, 118, 119, 120, 121, 122, 48, 49, 50, 51, 52, 53, 54, 55, 56, 57]
theorem cut_ok (b : UInt8) : cutL.contains b = okB b := by
  have h : ∀ n : Fin 256, cutL.contains (UInt8.ofNat n) = okB (UInt8.ofNat n) := by decide +kernel
  have hb : b = UInt8.ofNat b.toNat := by simp
  rw [hb]
  exact h ⟨b.toNat, b.toNat_lt⟩
theorem drop_all (p : UInt8 → Bool) : ∀ l : List UInt8, (l.dropWhile p = []) ↔ l.all p = true
  | [] => by simp
  | x :: l => by
    rw [List.dropWhile_cons, List.all_cons]
    cases hx : p x with
    | true => rw [if_pos rfl, drop_all p l]; simp
    | false => rw [if_neg (by decide)]; simp
theorem trim_empty (l : List UInt8) : (Lib.trimS l cutL == ([] : List UInt8)) = l.all okB := by
  have e : (fun b => cutL.contains b) = okB := funext cut_ok
  unfold Lib.trimS Lib.trimLeftS Lib.trimRightS
  rw [e]
  rw [Bool.eq_iff_iff, beq_iff_eq, drop_all]
  constructor
  · intro h
    rw [List.all_reverse] at h
    by_cases hn : l.reverse.dropWhile okB = []
    · rw [drop_all, List.all_reverse] at hn; exact hn
    · exfalso
      have h1 := List.head_dropWhile_not okB (w := hn)
      rw [List.all_eq_true] at h
      have h2 := h _ (List.head_mem hn)
      rw [h1] at h2
      cases h2
  · intro h
    have : l.reverse.dropWhile okB = [] := by rw [drop_all, List.all_reverse]; exact h
    rw [this]; rfl
theorem in_both (x lo hi : Int) : impl_in.f x lo hi = some (decide (lo ≤ x) && decide (x ≤ hi)) := by
  unfold impl_in.f
  by_cases h : x ≥ lo
  · rw [if_pos h]
    have h' : lo ≤ x := h
    simp [h']
  · rw [if_neg h]
    have h' : ¬ lo ≤ x := h
    simp [h']
theorem size_dec (n : Nat) : (decide ((1 : Int) ≤ (n : Int)) && decide ((n : Int) ≤ 12)) = (decide (1 ≤ n) && decide (n ≤ 12)) := by
  congr 1
  · exact decide_eq_decide.mpr (by omega)
  · exact decide_eq_decide.mpr (by omega)
theorem impl_good (s : ByteArray) (hs : s.size ≤ 9223372036854775807) : impl_GoodBackend.f s = some (goodS s) := by
  unfold impl_GoodBackend.f goodS
  rw [in_both, size_dec]
  simp only [Option.bind_some]
  cases hb : (decide (1 ≤ s.size) && decide (s.size ≤ 12)) with
  | false => rw [if_neg (by decide), Bool.false_and]
  | true =>
    rw [if_pos rfl, Bool.true_and]
    unfold impl_over.f strings_Trim.f
    rw [if_pos hs, if_pos (by decide), if_pos (by decide +kernel)]
    simp only [Option.bind_some]
    rw [Lib.toList_data]
    exact congrArg some (trim_empty s.data.toList)
/-- An entry, and what a good one is. -/
structure Ent where
  s0 : Int
  s1 : Int
  s2 : Int
  ky : ByteArray
  fb : Bool
  L : List (ByteArray × ByteArray)
  nx : Int
def inB (lo hi x : Int) : Bool := decide (lo ≤ x) && decide (x ≤ hi)
def zP : ByteArray × ByteArray := (ByteArray.empty, ByteArray.empty)
def srvAt (s1 : Int) (L : List (ByteArray × ByteArray)) (i : Nat) : Bool :=
  decide (((L.getD i zP).1.size : Int) = s1) && ((decide (i = 0) || Op.bytesLess (L.getD (i - 1) zP).1.toList (L.getD i zP).1.toList) && (goodS (L.getD i zP).2 && !(memS ((L.take i).map (fun x => x.2)) (L.getD i zP).2)))
def cfgB (s0 s1 s2 : Int) (ky : ByteArray) : Bool := inB 0 6 s0 && (inB 1 15 s1 && (inB 4 18 s2 && (decide (s1 + s2 ≤ 19) && (decide (ky.size = 0) || decide (ky.size = 16)))))
def goodE (e : Ent) : Bool := (List.range e.L.length).all (srvAt e.s1 e.L) && (cfgB e.s0 e.s1 e.s2 e.ky && (inB 0 2 e.s0 && (decide (e.L.length ≤ 12) && inB 0 1000000000 e.nx)))
theorem goodE_no (e : Ent) (i : Nat) (hi : i < e.L.length) (h : srvAt e.s1 e.L i = false) : goodE e = false := by
  unfold goodE
  have : (List.range e.L.length).all (srvAt e.s1 e.L) = false := by
    rw [List.all_eq_false]
    exact ⟨i, List.mem_range.mpr hi, by rw [h]; decide⟩
  rw [this]; rfl
theorem goodE_all (e : Ent) (h : ∀ i, i < e.L.length → srvAt e.s1 e.L i = true) : goodE e = (cfgB e.s0 e.s1 e.s2 e.ky && (inB 0 2 e.s0 && (decide (e.L.length ≤ 12) && inB 0 1000000000 e.nx))) := by
  unfold goodE
  have : (List.range e.L.length).all (srvAt e.s1 e.L) = true := List.all_eq_true.mpr fun i hi => h i (List.mem_range.mp hi)
  rw [this]; rfl
/-- A row of pairs of texts, and a row of entries, as memory reads them. -/
def prK (x : ByteArray × ByteArray) (cs : List Value) : Prop := cs = [.string x.1, .string x.2]
def entK (W : World) (x : Ent) (cs : List Value) : Prop := ∃ A c, cs = [.int .i64 x.s0, .int .i64 x.s1, .int .i64 x.s2, .string x.ky, .bool x.fb, .slice A x.L.length c, .int .i64 x.nx] ∧ x.L.length ≤ c ∧ ReadsRow prK 2 W A x.L.length x.L
theorem reads_below {α : Type} {R R' : α → List Value → Prop} {sz : Nat} {W W' : World} {A : Option Addr} {n : Nat} {xs : List α} (h : ReadsRow R sz W A n xs) (hB : Below W.heap.size W W') (hR : ∀ x cs, R x cs → R' x cs) : ReadsRow R' sz W' A n xs := h.imp_ hB (fun x cs => hR x cs)
theorem pr_below {W W' : World} {A : Option Addr} {n : Nat} {L : List (ByteArray × ByteArray)} (h : ReadsRow prK 2 W A n L) (hB : Below W.heap.size W W') : ReadsRow prK 2 W' A n L := reads_below h hB fun _ _ q => q
theorem pr_at {W : World} {A : Option Addr} {n : Nat} {L : List (ByteArray × ByteArray)} (h : ReadsRow prK 2 W A n L) (i : Int) (h0 : 0 ≤ i) (h1 : i < n) : ∃ ad, A = some ad ∧ W.cell? (ad.add (i.toNat * 2)) = some (.string (L.getD i.toNat zP).1) ∧ W.cell? ⟨(ad.add (i.toNat * 2)).block, (ad.add (i.toNat * 2)).off + 1, none⟩ = some (.string (L.getD i.toNat zP).2) := by
  obtain ⟨ad, c, e, _, hK, hc0⟩ := h.get_ zP i h0 h1
  unfold prK at hK
  subst hK
  exact ⟨ad, e, hc0 0 _ rfl, by rw [← add_field _ _ 1 (by omega)]; exact hc0 1 _ rfl⟩
end Go.Proofs.YtnghcnkffbjddaaDoorV.Aes
