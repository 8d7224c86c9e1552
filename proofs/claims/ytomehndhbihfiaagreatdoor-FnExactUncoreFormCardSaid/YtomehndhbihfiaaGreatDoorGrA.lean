/- What is read stays while some blocks change; rows of the call's own. No condition. -/
import Derived.Test.YtomehndhbihfiaaGreatDoorRawC
import Derived.Test.YtomehndhbihfiaaGreatDoorRawE
import Derived.Test.YtomehndhbihfiaaGreatDoorEvTri
import Derived.OwnWalk
import Derived.Lib.Hide
import Derived.Maps.OwnOps
import Derived.Maps.AppendAt
namespace Go.Raw
open Go.Mx Go.RowKit
set_option linter.unusedVariables false
structure Gr (S : Nat → Prop) (w w' : World) : Prop where
  os : w'.os = w.os
  tape : w'.tape = w.tape
  output : w'.output = w.output
  size : w.heap.size ≤ w'.heap.size
  block : ∀ b, b < w.heap.size → ¬ S b → w'.heap[b]? = w.heap[b]?
theorem Gr.refl (S : Nat → Prop) (w : World) : Gr S w w := ⟨rfl, rfl, rfl, Nat.le_refl _, fun _ _ _ => rfl⟩
theorem Gr.trans {S : Nat → Prop} {a b c : World} (h : Gr S a b) (k : Gr S b c) : Gr S a c :=
  ⟨k.os.trans h.os, k.tape.trans h.tape, k.output.trans h.output, Nat.le_trans h.size k.size, fun i hi hn => (k.block i (Nat.lt_of_lt_of_le hi h.size) hn).trans (h.block i hi hn)⟩
theorem Gr.mono {S T : Nat → Prop} {a b : World} (h : Gr S a b) (ht : ∀ i, i < a.heap.size → S i → T i) : Gr T a b := ⟨h.os, h.tape, h.output, h.size, fun i hi hn => h.block i hi fun h' => hn (ht i hi h')⟩
/-- From an elder world on: what changed lately may be new to it. -/
theorem Gr.trans' {S T : Nat → Prop} {a b c : World} (h : Gr S a b) (k : Gr T b c) (ht : ∀ i, i < a.heap.size → T i → S i) : Gr S a c :=
  ⟨k.os.trans h.os, k.tape.trans h.tape, k.output.trans h.output, Nat.le_trans h.size k.size, fun i hi hn => (k.block i (Nat.lt_of_lt_of_le hi h.size) (fun h' => hn (ht i hi h'))).trans (h.block i hi hn)⟩
theorem Gr.of_below {S : Nat → Prop} {a b : World} (h : Below a.heap.size a b) : Gr S a b := ⟨h.os, h.tape, h.output, h.size, fun i hi _ => h.block i hi⟩
theorem Gr.of_grown {a b : World} {r : Option Nat} (h : a.grownBy b r) : Gr (fun i => some i = r) a b := ⟨h.os, h.tape, h.output, h.size, fun i hi hn => h.block i hi hn⟩
theorem Gr.setCell (w : World) (p : Addr) (x : Value) : Gr (fun i => i = p.block) w (w.setCell p x) := ⟨rfl, rfl, rfl, by simp, fun i hi hn => Below.heap_setCell w p x i hn⟩
theorem Gr.alloc {S : Nat → Prop} (w : World) (o : Go.Obj) : Gr S w (w.alloc o) := .of_below ((Below.refl _ _).alloc (Nat.le_refl _) o)
theorem Gr.drew {S : Nat → Prop} {a b : World} (h : Gr S a b) : Gr S a b.drew := ⟨h.os, h.tape, h.output, h.size, h.block⟩
theorem Gr.cell {S : Nat → Prop} {a b : World} (h : Gr S a b) {g o : Nat} {x : Value} (hn : ¬ S g) (hx : a.cell? ⟨g, o, none⟩ = some x) : b.cell? ⟨g, o, none⟩ = some x := by
  have hl := cell_lt hx
  rw [World.cell?_of_block (a := ⟨g, o, none⟩) (h.block g hl hn)]; exact hx
theorem Gr.row {S : Nat → Prop} {a b : World} (h : Gr S a b) {g : Nat} {cells : List Value} (hn : ¬ S g) (hx : RowX a g cells) : RowX b g cells := fun j x hj => by
  obtain ⟨h1, h2⟩ := hx j x hj
  have hl := cell_lt h1
  have hb := h.block g hl hn
  exact ⟨by rw [World.cell?_of_block (a := ⟨g, j, none⟩) hb]; exact h1, by rw [World.frozen?_of_block (a := ⟨g, j, none⟩) hb]; exact h2⟩
theorem Gr.own {S : Nat → Prop} {a b : World} (h : Gr S a b) {base e size n : Nat} {v : Value} {xs : List Value} (hx : a.ownsRow base e size v n xs) (hn : ∀ g, v.ownBlock = some g → ¬ S g) : b.ownsRow base e size v n xs := by
  obtain ⟨h1, h2⟩ := hx
  refine ⟨h1, ?_⟩
  rcases h2 with h2 | ⟨g, cap, cur, rfl, q1, q2, q3⟩
  · exact .inl h2
  · exact .inr ⟨g, cap, cur, rfl, q1, (h.block g (Array.getElem?_eq_some_iff.1 q2).1 (hn g rfl)).trans q2, q3⟩
theorem own_ge {w : World} {base e size n g : Nat} {v : Value} {xs : List Value} (h : w.ownsRow base e size v n xs) (hg : v.ownBlock = some g) : base ≤ g := by
  obtain ⟨_, h⟩ := h
  rcases h with ⟨rfl, _⟩ | ⟨g', cap, cur, rfl, q, _⟩
  · cases hg
  · cases hg; exact q
theorem own_lt {w : World} {base e size n g : Nat} {v : Value} {xs : List Value} (h : w.ownsRow base e size v n xs) (hg : v.ownBlock = some g) : g < w.heap.size := by
  obtain ⟨_, h⟩ := h
  rcases h with ⟨rfl, _⟩ | ⟨g', cap, cur, rfl, _, q, _⟩
  · cases hg
  · cases hg; exact (Array.getElem?_eq_some_iff.1 q).1
theorem own_slice {w : World} {base e size n : Nat} {v : Value} {xs : List Value} (h : w.ownsRow base e size v n xs) : ∃ a cap, v = .slice a n cap := by
  obtain ⟨_, h⟩ := h
  rcases h with ⟨rfl, rfl⟩ | ⟨g', cap, cur, rfl, _⟩
  · exact ⟨_, _, rfl⟩
  · exact ⟨_, _, rfl⟩
theorem fiveR {cx : Cx} {w : World} {f : Mx.Form} {vs : List Value} (h : RdL cx w (cForm f) vs) : ∃ x4 x5, vs = [.int .i64 f.kind, .string f.name, .int .i64 f.n, x4, x5] ∧ Rd cx w (.sl 1 .ro (intsD f.scopes)) x4 ∧ Rd cx w (.sl 5 .ro (formsD f.kids)) x5 := by
  obtain ⟨hl, h⟩ := h
  match vs, hl with
  | [x1, x2, x3, x4, x5], _ =>
    have h1 := (h 0 _ _ rfl rfl).v_inv
    have h2 := (h 1 _ _ rfl rfl).v_inv
    have h3 := (h 2 _ _ rfl rfl).v_inv
    subst h1 h2 h3
    exact ⟨x4, x5, rfl, h 3 _ _ rfl rfl, h 4 _ _ rfl rfl⟩
theorem formsM {cx : Cx} {w : World} {fs : List Mx.Form} {v : Value} (h : Rd cx w (.sl 5 .ro (formsD fs)) v) : ∃ a cap, v = .slice a fs.length cap ∧ fs.length ≤ maxLen ∧ ∃ A1 A2, (0 < fs.length → a = some ⟨A1, A2, none⟩) ∧
    ∀ i, (hi : i < fs.length) → ∃ vs, RdL cx w (cForm fs[i]) vs ∧ ∀ (j : Nat) x, vs[j]? = some x → w.cell? ⟨A1, A2 + i * 5 + j, none⟩ = some x := by
  obtain ⟨a, cap, rfl, h1, h2, h3, _, A, hA, hc⟩ := rd_sl_inv h
  have hl : (formsD fs).length = fs.length := formsD_length fs
  rw [hl] at h1
  refine ⟨a, cap, by rw [hl], Nat.le_trans h1 h2, A.1, A.2, fun h => hA (by intro h'; rw [h'] at hl; simp at hl; omega), fun i hi => ?_⟩
  have hg : (formsD fs)[i]? = some (cForm fs[i]) := by rw [formsD_get, List.getElem?_eq_getElem hi]; rfl
  have hn : (cForm fs[i]).length = 5 := rfl
  have hf : ∀ j d, (cForm fs[i])[j]? = some d → w.cell? ⟨A.1, A.2 + i * 5 + j, none⟩ = some ((w.cell? ⟨A.1, A.2 + i * 5 + j, none⟩).getD (.bool false)) ∧ Rd cx w d ((w.cell? ⟨A.1, A.2 + i * 5 + j, none⟩).getD (.bool false)) := fun j d hd => by
    obtain ⟨y, q, _, r⟩ := hc i j _ _ hg hd
    rw [q]; exact ⟨rfl, r⟩
  refine ⟨(List.range 5).map fun j => (w.cell? ⟨A.1, A.2 + i * 5 + j, none⟩).getD (.bool false), ⟨by simp [hn], fun j d x hd hx => ?_⟩, fun j x hx => ?_⟩
  · have hj : j < 5 := by rw [← hn]; exact (List.getElem?_eq_some_iff.1 hd).1
    simp [hj] at hx
    rw [← hx]; exact (hf j d hd).2
  · have hj : j < 5 := by
      have := (List.getElem?_eq_some_iff.1 hx).1
      simpa using this
    have hd : (cForm fs[i])[j]? = some ((cForm fs[i])[j]'(by rw [hn]; exact hj)) := List.getElem?_eq_getElem _
    simp [hj] at hx
    rw [← hx]; exact (hf j _ hd).1
end Go.Raw
