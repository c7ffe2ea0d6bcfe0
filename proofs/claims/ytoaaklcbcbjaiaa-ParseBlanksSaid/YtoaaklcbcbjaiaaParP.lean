/- A program of tokens, in plain words: what parse and the document's parser both come to. -/
import Derived.Test.YtoaaklcbcbjaiaaLex4
set_option linter.unusedSimpArgs false
set_option linter.unusedVariables false
namespace Go.Proofs.Ytoaaklcbcbjaiaa
open Go.RowKit

/-- a node -/
structure Nd where
  k : Int
  a : Int
  b : Int
  c : Int
  x : Int
  i : Int
  s : ByteArray
  t : ByteArray
def nd (k : Int) : Nd := ⟨k, -1, -1, -1, -1, 0, ⟨#[]⟩, ⟨#[]⟩⟩
def ndL (z : Nd) : List Value := [.int .i64 z.k, .int .i64 z.a, .int .i64 z.b, .int .i64 z.c, .int .i64 z.x, .int .i64 z.i, .string z.s, .string z.t]
def ndV (z : Nd) : Value := .agg #[.int .i64 z.k, .int .i64 z.a, .int .i64 z.b, .int .i64 z.c, .int .i64 z.x, .int .i64 z.i, .string z.s, .string z.t]
def ndCells (l : List Nd) : List Value := l.flatMap ndL
theorem ndCells_append (l m : List Nd) : ndCells (l ++ m) = ndCells l ++ ndCells m := by simp [ndCells]
theorem ndCells_length : ∀ l, (ndCells l).length = l.length * 8
  | [] => rfl
  | t :: l => by
    have := ndCells_length l
    simp only [ndCells, ndL, List.flatMap_cons, List.length_append, List.length_cons, List.length_nil] at *
    omega
theorem ndCells_one (l : List Nd) : ∀ u ∈ ndCells l, u.oneCell' = true := by
  intro u hu
  simp only [ndCells, List.mem_flatMap] at hu
  obtain ⟨t, _, h⟩ := hu
  simp [ndL] at h
  rcases h with rfl | rfl | rfl | rfl | rfl | rfl | rfl | rfl <;> rfl

/-- tokens with their places -/
abbrev Toks := List (Tok × Int)
def tkL (t : Tok × Int) : List Value := [.int .i64 t.1.k, .int .i64 t.2, .string t.1.s, .int .i64 t.1.i]
def tkCells (l : Toks) : List Value := l.flatMap tkL
def tk (L : Toks) (m : Nat) : Tok × Int := L.getD m (tok0, 0)
theorem tkCells_length : ∀ l, (tkCells l).length = l.length * 4
  | [] => rfl
  | t :: l => by
    have := tkCells_length l
    simp only [tkCells, tkL, List.flatMap_cons, List.length_append, List.length_cons, List.length_nil] at *
    omega
theorem tkCells_get : ∀ (l : Toks) (j : Nat), j < l.length →
    (tkCells l)[j * 4]? = some (.int .i64 (tk l j).1.k) ∧ (tkCells l)[j * 4 + 1]? = some (.int .i64 (tk l j).2) ∧ (tkCells l)[j * 4 + 2]? = some (.string (tk l j).1.s) ∧ (tkCells l)[j * 4 + 3]? = some (.int .i64 (tk l j).1.i)
  | [], j, h => by simp at h
  | t :: l, 0, _ => ⟨rfl, rfl, rfl, rfl⟩
  | t :: l, j + 1, h => by
    have := tkCells_get l j (by simpa using h)
    have e : ∀ r, (tkCells (t :: l))[(j + 1) * 4 + r]? = (tkCells l)[j * 4 + r]? := by
      intro r
      have h1 : tkCells (t :: l) = tkL t ++ tkCells l := rfl
      rw [h1, List.getElem?_append_right (by simp [tkL]; omega)]
      congr 1
      simp [tkL]; omega
    have e2 : tk (t :: l) (j + 1) = tk l j := rfl
    rw [e2, e 1, e 2, e 3, ← Nat.add_zero ((j + 1) * 4), e 0]
    simpa using this

/-- what a way through tokens comes to: the error and its place, or a value, how far is read, and the nodes that are new -/
abbrev PR (α : Type) := Except (Int × Int) (α × Nat × List Nd)
/-- a way through tokens: from a place on, behind so many nodes -/
abbrev PM (α : Type) := Nat → Nat → PR α
def prep {α : Type} (ns : List Nd) : PR α → PR α
  | .error e => .error e
  | .ok (v, m, ns') => .ok (v, m, ns ++ ns')
def pok {α : Type} (v : α) : PM α := fun m _ => .ok (v, m, [])
def pbind {α β : Type} (p : PM α) (f : α → PM β) : PM β := fun m n => match p m n with
  | .error e => .error e
  | .ok (v, m1, ns) => prep ns (f v m1 (n + ns.length))
theorem pbind_err {α β : Type} {p : PM α} {f : α → PM β} {m n : Nat} {e : Int × Int} (h : p m n = .error e) : pbind p f m n = .error e := by
  unfold pbind; rw [h]
theorem pbind_ok {α β : Type} {p : PM α} {f : α → PM β} {m n : Nat} {v : α} {m1 : Nat} {ns : List Nd} (h : p m n = .ok (v, m1, ns)) : pbind p f m n = prep ns (f v m1 (n + ns.length)) := by
  unfold pbind; rw [h]
theorem prep_nil {α : Type} (r : PR α) : prep [] r = r := by
  cases r with
  | error e => rfl
  | ok v => obtain ⟨v, m, ns⟩ := v; rfl
theorem prep_prep {α : Type} (a b : List Nd) (r : PR α) : prep a (prep b r) = prep (a ++ b) r := by
  cases r with
  | error e => rfl
  | ok v => obtain ⟨v, m, ns⟩ := v; simp [prep]

section
variable (L : Toks)
def pno {α : Type} (e : Int) : PM α := fun m _ => .error (e, (tk L m).2)
/-- does a sign or a word stand there? -/
def isP (s : ByteArray) (m : Nat) : Bool := (tk L m).1.k == (if wordB s = true then 5 else 4) && ((tk L m).1.s).toList == s.toList
def takesP (s : ByteArray) : PM Bool := fun m _ => if isP L s m = true then .ok (true, m + 1, []) else .ok (false, m, [])
def must1 (s : ByteArray) : PM Unit := fun m _ => if isP L s m = true then .ok ((), m + 1, []) else .error (3, (tk L m).2)
def mustP : List ByteArray → PM Unit
  | [] => pok ()
  | s :: r => pbind (must1 L s) fun _ => mustP r
def ofP (k : Int) : PM Tok := fun m _ => if (tk L m).1.k = k then .ok ((tk L m).1, m + 1, []) else .error (3, (tk L m).2)
def layP (z : Nd) : PM Int := fun m n => if n = 512 then .error (5, (tk L m).2) else .ok ((n : Int), m, [z])
def deepP (d : Nat) : PM Unit := fun m _ => if 16 < d then .error (14, (tk L m).2) else .ok ((), m, [])
def skipP : PM Unit := fun m _ => .ok ((), m + 1, [])
def turnsP : PM Int := fun m n => if (tk L m).1.k = 2 ∧ 64 < (tk L m).1.i then .error (8, (tk L m).2) else pbind (ofP L 2) (fun t => pok t.i) m n
def oneOfP (ss : List ByteArray) : PM (Option ByteArray) := fun m _ => match ss.find? (fun s => isP L s m) with
  | none => .ok (none, m, [])
  | some s => .ok (some s, m + 1, [])
def twoNd (a b : Int) (s : ByteArray) : Nd := { nd 11 with a := a, b := b, s := s }
/-- what binds from the left by some signs -/
def twoLoop (cl : PM Int) (ss : List ByteArray) : Nat → Int → PM Int
  | 0, a => pok a
  | g + 1, a => pbind (oneOfP L ss) fun o => match o with
    | none => pok a
    | some s => pbind cl fun b => pbind (layP L (twoNd a b s)) fun a' => twoLoop cl ss g a'
def twoP (cl : PM Int) (ss : List ByteArray) : PM Int := pbind cl fun a => twoLoop L cl ss (L.length + 1) a
def ssTimes : List ByteArray := [⟨#[42]⟩, ⟨#[47]⟩, ⟨#[37]⟩]
def ssSum : List ByteArray := [⟨#[43]⟩, ⟨#[45]⟩]
def ssJoin : List ByteArray := [⟨#[46, 46]⟩]
def ssIs : List ByteArray := [⟨#[61, 61]⟩, ⟨#[33, 61]⟩, ⟨#[60]⟩, ⟨#[60, 61]⟩, ⟨#[62]⟩, ⟨#[62, 61]⟩]
def ssAnd : List ByteArray := [⟨#[97, 110, 100]⟩]
def ssOr : List ByteArray := [⟨#[111, 114]⟩]
def timesP (one : PM Int) : PM Int := twoP L one ssTimes
def sumP (one : PM Int) : PM Int := twoP L (timesP L one) ssSum
def joinP (one : PM Int) : PM Int := twoP L (sumP L one) ssJoin
def compP (one : PM Int) : PM Int := pbind (joinP L one) fun a => pbind (oneOfP L ssIs) fun o => match o with
    | none => pok a
    | some s => pbind (joinP L one) fun b => layP L (twoNd a b s)
def andP (one : PM Int) : PM Int := twoP L (compP L one) ssAnd
def orP (one : PM Int) : PM Int := twoP L (andP L one) ssOr
def sIs (x : ByteArray) (l : List UInt8) : Bool := x.toList == l
/-- the kind of a node that a word calls -/
def callF (s : ByteArray) : Int :=
  if sIs s [103, 101, 116] = true then 5 else if sIs s [104, 97, 115] = true then 6 else if sIs s [108, 101, 110] = true then 7 else if sIs s [115, 104, 111, 119] = true then 8 else -1
def withinP (k : Int) (d : Nat) (o1 : PM Int) : PM Int := pbind (deepP L (d + 1)) fun _ => pbind o1 fun a => layP L { nd k with a := a }
def signedP (d : Nat) (e1 o1 : PM Int) : PM Int := fun m n =>
  if isP L ⟨#[45]⟩ m = true then pbind (skipP) (fun _ => withinP L 10 d o1) m n
  else if isP L ⟨#[40]⟩ m = true then pbind (skipP) (fun _ => pbind e1 fun a => pbind (mustP L [⟨#[41]⟩]) fun _ => pok a) m n
  else pno L 3 m n
def wordedP (d : Nat) (e1 o1 : PM Int) : PM Int := fun m n =>
  if callF (tk L m).1.s = -1 then
    if isP L ⟨#[110, 111, 116]⟩ m = true then pbind (skipP) (fun _ => withinP L 9 d o1) m n
    else if isP L ⟨#[110, 105, 108]⟩ m = true then pbind (skipP) (fun _ => layP L (nd 0)) m n
    else if sIs (tk L m).1.s [116, 114, 117, 101] = true then pbind (skipP) (fun _ => layP L { nd 1 with i := 1 }) m n
    else if sIs (tk L m).1.s [102, 97, 108, 115, 101] = true then pbind (skipP) (fun _ => layP L (nd 1)) m n
    else pno L 3 m n
  else pbind (skipP) (fun _ => pbind (mustP L [⟨#[40]⟩]) fun _ => pbind e1 fun a => pbind (mustP L [⟨#[41]⟩]) fun _ => layP L { nd (callF (tk L m).1.s) with a := a }) m n
/-- what binds closest -/
def oneP (d : Nat) (e1 o1 : PM Int) : PM Int := fun m n =>
  if (tk L m).1.k = 2 then pbind (skipP) (fun _ => layP L { nd 2 with i := (tk L m).1.i }) m n
  else if (tk L m).1.k = 3 then pbind (skipP) (fun _ => layP L { nd 3 with s := (tk L m).1.s }) m n
  else if (tk L m).1.k = 1 then pbind (skipP) (fun _ => layP L { nd 4 with s := (tk L m).1.s }) m n
  else if (tk L m).1.k = 4 then signedP L d e1 o1 m n
  else if (tk L m).1.k = 5 then wordedP L d e1 o1 m n
  else pno L 3 m n
/-- an expr, and what binds closest, so many places above the deepest -/
def exprD : Nat → PM Int × PM Int
  | 0 => (pno L 14, pno L 14)
  | D + 1 => (orP L (oneP L (16 - D) (exprD D).1 (exprD D).2), oneP L (16 - D) (exprD D).1 (exprD D).2)
def exprP (D : Nat) : PM Int := (exprD L D).1
def oneD (D : Nat) : PM Int := (exprD L D).2
def setNext (ns : List Nd) (j : Nat) (v : Int) : List Nd := ns.modify j fun z => { z with x := v }
/-- statements, one behind the other -/
def blockLoop (st : PM Int) : Nat → Int → Int → List Nd → Nat → Nat → PR Int
  | 0, first, _, acc, m, _ => .ok (first, m, acc)
  | g + 1, first, last, acc, m, n => match st m (n + acc.length) with
    | .error e => .error e
    | .ok (i, m1, ns) =>
      if i = -1 then .ok (first, m1, acc ++ ns)
      else if first = -1 then blockLoop st g i i (acc ++ ns) m1 n
      else blockLoop st g first i (setNext (acc ++ ns) (last.toNat - n) i) m1 n
def bracedP (bl : PM Int) : PM Int := pbind (mustP L [⟨#[123]⟩]) fun _ => pbind bl fun n => pbind (mustP L [⟨#[125]⟩]) fun _ => pok n
def namesP (k : Int) (ex : PM Int) : PM Int := pbind (skipP) fun _ => pbind (ofP L 1) fun t => pbind (mustP L [⟨#[61]⟩]) fun _ => pbind ex fun a => pbind (mustP L [⟨#[59]⟩]) fun _ => layP L { nd k with s := t.s, a := a }
def putP (ex : PM Int) : PM Int := pbind (skipP) fun _ => pbind ex fun a => pbind (mustP L [⟨#[44]⟩]) fun _ => pbind ex fun b => pbind (mustP L [⟨#[59]⟩]) fun _ => layP L { nd 22 with a := a, b := b }
def simpleP (k : Int) (ex : PM Int) : PM Int := pbind (skipP) fun _ => pbind ex fun a => pbind (mustP L [⟨#[59]⟩]) fun _ => layP L { nd k with a := a }
def whenP (ex br : PM Int) : PM Int := pbind (skipP) fun _ => pbind ex fun a => pbind br fun b => pbind (takesP L ⟨#[101, 108, 115, 101]⟩) fun e =>
  if e = true then pbind br fun c => layP L { nd 24 with a := a, b := b, i := 1, c := c } else layP L { nd 24 with a := a, b := b }
def eachP (ex br : PM Int) : PM Int := pbind (skipP) fun _ => pbind (ofP L 1) fun s => pbind (mustP L [⟨#[44]⟩]) fun _ => pbind (ofP L 1) fun t =>
  pbind (mustP L [⟨#[105, 110]⟩, ⟨#[115, 99, 97, 110]⟩, ⟨#[40]⟩]) fun _ => pbind ex fun a => pbind (mustP L [⟨#[44]⟩]) fun _ => pbind (turnsP L) fun i => pbind (mustP L [⟨#[41]⟩]) fun _ =>
  pbind br fun b => layP L { nd 25 with s := s.s, t := t.s, a := a, i := i, b := b }
def repeatP (br : PM Int) : PM Int := pbind (skipP) fun _ => pbind (turnsP L) fun i => pbind br fun b => layP L { nd 26 with i := i, b := b }
/-- a statement; -1: none comes next -/
def stmtP (ex br : PM Int) : PM Int := fun m n =>
  if ¬ (tk L m).1.k = 5 then pok (-1) m n
  else if sIs (tk L m).1.s [108, 101, 116] = true then namesP L 20 ex m n
  else if sIs (tk L m).1.s [115, 101, 116] = true then namesP L 21 ex m n
  else if sIs (tk L m).1.s [112, 117, 116] = true then putP L ex m n
  else if sIs (tk L m).1.s [100, 101, 108, 101, 116, 101] = true then simpleP L 23 ex m n
  else if sIs (tk L m).1.s [97, 98, 111, 114, 116] = true then simpleP L 27 ex m n
  else if sIs (tk L m).1.s [114, 101, 116, 117, 114, 110] = true then simpleP L 28 ex m n
  else if sIs (tk L m).1.s [105, 102] = true then whenP L ex br m n
  else if sIs (tk L m).1.s [102, 111, 114] = true then eachP L ex br m n
  else if sIs (tk L m).1.s [114, 101, 112, 101, 97, 116] = true then repeatP L br m n
  else pok (-1) m n
/-- a block so many places above the deepest -/
def blockD : Nat → PM Int
  | 0 => pno L 14
  | D + 1 => fun m n => blockLoop (stmtP L (exprP L (D + 1)) (bracedP L (blockD D))) (L.length + 1) (-1) (-1) [] m n
/-- the program of tokens: its nodes and the first, or the error and its place -/
def progP : Except (Int × Int) (List Nd × Int) := match pbind (blockD L 16) (fun f => pbind (ofP L 0) fun _ => pok f) 0 0 with
  | .error e => .error e
  | .ok (f, _, ns) => .ok (ns, f)
/-- the tokens end where they end, and nowhere else -/
def endsOk : Bool := L ≠ [] && (List.range L.length).all fun j => ((tk L j).1.k == 0) == decide (j + 1 = L.length)
def parseF : Except (Int × Int) (List Nd × Int) := if endsOk L = true then progP L else .error (1, 0)
end
end Go.Proofs.Ytoaaklcbcbjaiaa
