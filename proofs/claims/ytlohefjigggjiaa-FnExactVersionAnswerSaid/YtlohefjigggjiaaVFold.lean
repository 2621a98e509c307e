/- Shorter names for some words of the printed texts, and one block's object. Plain lemmas over whatever program; conditions: none. -/
import Derived.Test.YtlohefjigggjiaaVWb
namespace Go.Proofs.YtlohefjigggjiaaV.PrintWords
open Go.RowKit Go.Proofs.YtlohefjigggjiaaV.PrintLast
theorem rA {α : Type} {d : Kd α} {e : Nat} {w : World} {base : Nat} {ok : Nat → Prop} {v : Value} {xs : List α} (h : Kd.R d e w base ok v xs) (o : Obj) : Kd.R d e (w.alloc o) base ok v xs := Kd.R_alloc h o
theorem rN {α : Type} {d : Kd α} {e : Nat} {w : World} {base : Nat} {ok : Nat → Prop} {v : Value} {xs : List α} (h : Kd.R d e w base ok v xs) (m : Nat) : Kd.R d e (w.drewN m) base ok v xs := Kd.R_drewN h m
theorem rD {α : Type} {d : Kd α} {e : Nat} {w : World} {base : Nat} {ok : Nat → Prop} {v : Value} {xs : List α} (h : Kd.R d e w base ok v xs) : Kd.R d e w.drew base ok v xs := Kd.R_drew h
theorem bN {w : World} {g : Nat} {o : Obj} (h : w.heap[g]? = some o) (n : Nat) : (w.drewN n).heap[g]? = some o := blk_drewN h n
theorem bD {w : World} {g : Nat} {o : Obj} (h : w.heap[g]? = some o) : w.drew.heap[g]? = some o := blk_drew h
theorem bA {w : World} {g : Nat} {o : Obj} (h : w.heap[g]? = some o) (o' : Obj) : (w.alloc o').heap[g]? = some o := blk_alloc h o'
theorem bB {w w1 : World} {g : Nat} {o : Obj} (h : w.heap[g]? = some o) (hb : Below w.heap.size w w1) : w1.heap[g]? = some o := blk_below h hb
theorem wA {w W : World} (h : Below w.heap.size w W) (o : Obj) : Below w.heap.size w (W.alloc o) := below_alloc h o
theorem wN {B : Nat} {w W : World} (h : Below B w W) (n : Nat) : Below B w (W.drewN n) := pw_below_drewN h n
theorem wD {base : Nat} {w W : World} (h : Below base w W) : Below base w W.drew := below_drew1 h
theorem wS {w W : World} {g j : Nat} {v : Value} (h : Below w.heap.size w W) (hg : w.heap.size ≤ g) : Below w.heap.size w (W.setCell ⟨g, j, none⟩ v) := below_set h hg
theorem rB {α : Type} {d : Kd α} {e : Nat} {w w1 : World} {base : Nat} {ok : Nat → Prop} {v : Value} {xs : List α} (h : Kd.R d e w base ok v xs) (hb : Below w.heap.size w w1) : Kd.R d e w1 base ok v xs := Kd.R_below h hb
abbrev OB (f b v : Int) (d s t p : ByteArray) (x : Value) (T : TypeId) : Obj := .cells #[.int .i64 f, .int .i64 b, .int .i64 v, .string d, .string s, .string t, .string p, x] T (0, 0)
end Go.Proofs.YtlohefjigggjiaaV.PrintWords
