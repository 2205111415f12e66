/- An abstract layer over the model, of this session's own: part AbA. -/
import Derived.Orders
import Derived.LoopN
import Derived.Laws.AppendOwn
import Derived.Laws.OwnMore
import Derived.Laws.Tables
import Derived.Lib.LaidTab
import Derived.Below
set_option linter.unusedVariables false
set_option linter.unusedSimpArgs false
/- Ab1: abstract values, the relation between abstract and concrete values, and the operations that touch no memory. -/
namespace Go.Ab
open Go

/-- Two lists of one length, related place by place. -/
def All2 {α β : Type} (R : α → β → Prop) (xs : List α) (ys : List β) : Prop := xs.length = ys.length ∧ ∀ (i : Nat) (a : α) (b : β), xs[i]? = some a → ys[i]? = some b → R a b
theorem All2.imp {α β : Type} {R S : α → β → Prop} {xs : List α} {ys : List β} (h : All2 R xs ys) (k : ∀ a b, R a b → S a b) : All2 S xs ys := ⟨h.1, fun i a b ha hb => k a b (h.2 i a b ha hb)⟩
theorem All2.nil {α β : Type} {R : α → β → Prop} : All2 R [] [] := ⟨rfl, fun i a b h => by simp at h⟩
theorem All2.cons {α β : Type} {R : α → β → Prop} {x : α} {y : β} {xs : List α} {ys : List β} (h : R x y) (k : All2 R xs ys) : All2 R (x :: xs) (y :: ys) := by
  refine ⟨by simp [k.1], fun i a b ha hb => ?_⟩
  cases i with
  | zero => simp at ha hb; subst ha; subst hb; exact h
  | succ i => simp at ha hb; exact k.2 i a b ha hb
theorem All2.get {α β : Type} {R : α → β → Prop} {xs : List α} {ys : List β} (h : All2 R xs ys) {i : Nat} {a : α} (ha : xs[i]? = some a) : ∃ b, ys[i]? = some b ∧ R a b := by
  have hi : i < xs.length := (List.getElem?_eq_some_iff.1 ha).1
  have hj : i < ys.length := h.1 ▸ hi
  exact ⟨ys[i], List.getElem?_eq_getElem hj, h.2 i a _ ha (List.getElem?_eq_getElem hj)⟩
theorem All2.append {α β : Type} {R : α → β → Prop} {xs xs' : List α} {ys ys' : List β} (h : All2 R xs ys) (k : All2 R xs' ys') : All2 R (xs ++ xs') (ys ++ ys') := by
  refine ⟨by simp [h.1, k.1], fun i a b ha hb => ?_⟩
  rw [List.getElem?_append] at ha hb
  rw [← h.1] at hb
  split at ha
  · rename_i hi; rw [if_pos hi] at hb; exact h.2 i a b ha hb
  · rename_i hi; rw [if_neg hi] at hb; exact k.2 _ a b ha hb
theorem All2.map_right {α β γ : Type} {R : α → γ → Prop} {f : β → γ} {xs : List α} {ys : List β} (h : All2 (fun a b => R a (f b)) xs ys) : All2 R xs (ys.map f) := by
  refine ⟨by simp [h.1], fun i a b ha hb => ?_⟩
  simp only [List.getElem?_map, Option.map_eq_some_iff] at hb
  obtain ⟨c, hc, rfl⟩ := hb
  exact h.2 i a c ha hc
theorem All2.of_fun {α β γ : Type} {R : β → γ → Prop} {f : α → β} {g : α → γ} (xs : List α) (h : ∀ x ∈ xs, R (f x) (g x)) : All2 R (xs.map f) (xs.map g) := by
  refine ⟨by simp, fun i a b ha hb => ?_⟩
  simp only [List.getElem?_map, Option.map_eq_some_iff] at ha hb
  obtain ⟨c, hc, rfl⟩ := ha
  obtain ⟨c', hc', rfl⟩ := hb
  rw [hc] at hc'
  obtain rfl := Option.some.inj hc'
  exact h c (List.mem_of_getElem? hc)
theorem All2.eq {α : Type} {R : α → α → Prop} {xs ys : List α} (h : All2 R xs ys) (k : ∀ a b, a ∈ xs → R a b → b = a) : ys = xs := by
  apply List.ext_getElem?
  intro i
  cases hx : xs[i]? with
  | none =>
    have : xs.length ≤ i := List.getElem?_eq_none_iff.1 hx
    exact List.getElem?_eq_none (by rw [← h.1]; exact this)
  | some a =>
    obtain ⟨b, hb, r⟩ := h.get hx
    rw [hb, k a b (List.mem_of_getElem? hx) r]
theorem All2.drop {α β : Type} {R : α → β → Prop} {xs : List α} {ys : List β} (h : All2 R xs ys) (n : Nat) : All2 R (xs.drop n) (ys.drop n) := by
  refine ⟨by simp [h.1], fun i a b ha hb => ?_⟩
  simp only [List.getElem?_drop] at ha hb
  exact h.2 _ a b ha hb
theorem All2.take {α β : Type} {R : α → β → Prop} {xs : List α} {ys : List β} (h : All2 R xs ys) (n : Nat) : All2 R (xs.take n) (ys.take n) := by
  refine ⟨by simp [h.1], fun i a b ha hb => ?_⟩
  simp only [List.getElem?_take] at ha hb
  split at ha <;> simp_all
  exact h.2 _ a b ha hb

/-! ### Values. An abstract value is a Value whose addresses are abstract (block numbers of the abstract heap), and whose slices' capacity cell
is 64 * k + z: z: how many cells an element has; k: 0: the capacity is not known; 2 * c + 1: it is just c. -/
def plainL : Value → Bool
  | .bool _ => true
  | .int _ _ => true
  | .float _ _ => true
  | .complex _ _ _ => true
  | .string _ => true
  | .nilFunc => true
  | .nilIface => true
  | .pointer none => true
  | .slice none n c => n == 0 && c == 0
  | .map none => true
  | .func _ xs ys => xs.isEmpty && ys.isEmpty
  | _ => false
def plainA : Value → Bool
  | .agg cs => cs.all plainL
  | .iface _ (.agg cs) => cs.all plainL
  | .iface _ v => plainL v
  | v => plainL v
def plainV : Value → Bool
  | .tuple vs => vs.all plainA
  | v => plainA v

/-- Where an abstract block lies: the block, where it begins there, and how many cells there are from there on. -/
abbrev Sig := Nat → Option (Nat × Nat × Nat)
def Sig.le (s t : Sig) : Prop := ∀ b p, s b = some p → t b = some p
theorem Sig.le_refl (s : Sig) : s.le s := fun _ _ h => h
theorem Sig.le_trans {s t u : Sig} (h : s.le t) (k : t.le u) : s.le u := fun b p e => k b p (h b p e)

inductive PRel (s : Sig) : Value → Value → Prop where
  | plain (v : Value) : plainL v = true → PRel s v v
  | iface (t : TypeId) (v : Value) : plainA (.iface t v) = true → PRel s (.iface t v) (.iface t v)
  | ptr (b g d m off : Nat) : s b = some (g, d, m) → PRel s (.pointer (some ⟨b, off, none⟩)) (.pointer (some ⟨g, off + d, none⟩))
  | slice (b g d m off n c c' : Nat) : s b = some (g, d, m) → n ≤ c' → (c / 64 = 0 ∨ c / 64 = 2 * c' + 1) → off + c' * (c % 64) ≤ m →
      PRel s (.slice (some ⟨b, off, none⟩) n c) (.slice (some ⟨g, off + d, none⟩) n c')
  | slice0 (a a' : Addr) (c : Nat) : (c / 64 = 0 ∨ c / 64 = 1) → PRel s (.slice (some a) 0 c) (.slice (some a') 0 0)
  | map (b g m : Nat) : s b = some (g, 0, m) → PRel s (.map (some b)) (.map (some g))
inductive LRel (s : Sig) : Value → Value → Prop where
  | base {v v' : Value} : PRel s v v' → LRel s v v'
  | func (fn : Fn) (xs ys zs us : List Value) : All2 (PRel s) xs zs → All2 (PRel s) ys us → LRel s (.func fn xs.toArray ys.toArray) (.func fn zs.toArray us.toArray)
inductive ARel (s : Sig) : Value → Value → Prop where
  | one {v v' : Value} : LRel s v v' → ARel s v v'
  | agg (xs ys : List Value) : All2 (LRel s) xs ys → ARel s (.agg xs.toArray) (.agg ys.toArray)
inductive VRel (s : Sig) : Value → Value → Prop where
  | one {v v' : Value} : ARel s v v' → VRel s v v'
  | tup (xs ys : List Value) : All2 (ARel s) xs ys → VRel s (.tuple xs.toArray) (.tuple ys.toArray)

theorem PRel.mono {s t : Sig} (h : s.le t) {v v' : Value} (r : PRel s v v') : PRel t v v' := by
  cases r with
  | plain v h1 => exact .plain v h1
  | iface u v h1 => exact .iface u v h1
  | ptr b g d m off h1 => exact .ptr b g d m off (h _ _ h1)
  | slice b g d m off n c c' h1 h2 h3 h4 => exact .slice b g d m off n c c' (h _ _ h1) h2 h3 h4
  | slice0 a a' c h1 => exact .slice0 a a' c h1
  | map b g m h1 => exact .map b g m (h _ _ h1)
theorem LRel.mono {s t : Sig} (h : s.le t) {v v' : Value} (r : LRel s v v') : LRel t v v' := by
  cases r with
  | base r => exact .base (r.mono h)
  | func fn xs ys zs us h1 h2 => exact .func fn xs ys zs us (h1.imp fun _ _ r => r.mono h) (h2.imp fun _ _ r => r.mono h)
theorem ARel.mono {s t : Sig} (h : s.le t) {v v' : Value} (r : ARel s v v') : ARel t v v' := by
  cases r with
  | one r => exact .one (r.mono h)
  | agg xs ys h1 => exact .agg xs ys (h1.imp fun _ _ r => r.mono h)
theorem VRel.mono {s t : Sig} (h : s.le t) {v v' : Value} (r : VRel s v v') : VRel t v v' := by
  cases r with
  | one r => exact .one (r.mono h)
  | tup xs ys h1 => exact .tup xs ys (h1.imp fun _ _ r => r.mono h)

end Go.Ab

namespace Go.Ab
open Go

/-! ### What runs without memory -/
def runN {α : Type} : Sem α → Option α
  | .pure a => some a
  | .mark _ k => runN k
  | _ => none
def runP (P : Program) {α : Type} : Sem α → Option α
  | .pure a => some a
  | .program k => runP P (k P)
  | .mark _ k => runP P k
  | _ => none
theorem runN_run {α : Type} {P : Program} {s : Sem α} {a : α} (h : runN s = some a) (w : World) : s.run P w = .ok a w := by
  induction s with
  | pure b => simp [runN] at h; subst h; rfl
  | mark m k ih => simp only [runN] at h; simpa [Sem.run] using ih h
  | _ => simp [runN] at h
theorem runP_run {α : Type} {P : Program} {s : Sem α} {a : α} (h : runP P s = some a) (w : World) : s.run P w = .ok a w := by
  induction s with
  | pure b => simp [runP] at h; subst h; rfl
  | mark m k ih => simp only [runP] at h; simpa [Sem.run] using ih h
  | program k ih => simp only [runP] at h; simpa [Sem.run] using ih P h
  | _ => simp [runP] at h

abbrev Env := Nat → Value
def upd (e : Env) (d : Nat) (v : Value) : Env := fun i => if i = d then v else e i
def ev (e : Env) : Operand → Value
  | .tmp t => e t
  | .const v => v
  | .global g => .pointer (some ⟨g, 0, none⟩)
  | .func f => .func (.func f) #[] #[]
def okX (nG : Nat) : Operand → Bool
  | .const v => plainV v
  | .global g => decide (g < nG)
  | _ => true

inductive AOp where
  | mv (x : Operand)
  | pick (c a b : Operand)
  | bin (op : BinOp) (x y : Operand)
  | eqB (neg : Bool) (x y : Operand)
  | eqG (op : BinOp) (t : TypeId) (x y : Operand)
  | isnil (k : Nat) (neg : Bool) (x : Operand)
  | un (op : UnOp) (x : Operand)
  | cvI (k : IntKind) (x : Operand)
  | cvF (k : FloatKind) (x : Operand)
  | nilc (x : Operand)
  | fa (off : Nat) (x : Operand)
  | ia (size : Nat) (x i : Operand)
  | iaA (len size : Nat) (x i : Operand)
  | sl (size : Nat) (x : Operand) (lo hi mx : Option Operand)
  | slS (x : Operand) (lo hi : Option Operand)
  | fld (n : Option Nat) (off : Nat) (x : Operand)
  | ixS (x i : Operand)
  | ixA (n : Option Nat) (len size : Nat) (x i : Operand)
  | ext (x : Operand) (i : Nat)
  | bld (zero : List Value) (parts : List (Nat × Nat × Operand))
  | mkf (f : FuncId) (first captured : List Operand)
  | mki (t : TypeId) (x : Operand)
  | len (x : Operand)
  | lenS (x : Operand)
  | mx (xs : List Operand)
  | mn (xs : List Operand)
  | re (x : Operand)
  | im (x : Operand)
  | cx (x y : Operand)
  | nat (f : FuncId) (args : List Operand)
  | ld (n : Option Nat) (a : Operand)
  | st (n : Nat) (a v : Operand)
  | bx (v : Operand)
  | al (zero : List Value)
  | bs (len size : Nat) (zero : List Value) (parts : List (Nat × Nat × Operand))
  | ms (size bytes : Nat) (zero : List Value) (l c : Operand)
  | app (size bytes : Nat) (zero : List Value) (s x : Operand)
  | clr (size : Nat) (zero : List Value) (x : Operand)
  | call (f : FuncId) (args : List Operand)
  | dyn (f : Operand) (args : List Operand)
  | pan (x : Operand)

/-! ### The operations on values -/
def intA (op : BinOp) (k : IntKind) (a b : Int) : Option Value :=
  match op with
  | .add => some (.int k (k.wrap (a + b)))
  | .sub => some (.int k (k.wrap (a - b)))
  | .mul => some (.int k (k.wrap (a * b)))
  | .quo => if b = 0 then none else some (.int k (k.wrap (a.tdiv b)))
  | .rem => if b = 0 then none else some (.int k (a.tmod b))
  | .and => some (.int k (k.wrap (BitVec.ofInt k.bits a &&& BitVec.ofInt k.bits b).toNat))
  | .or => some (.int k (k.wrap (BitVec.ofInt k.bits a ||| BitVec.ofInt k.bits b).toNat))
  | .xor => some (.int k (k.wrap (BitVec.ofInt k.bits a ^^^ BitVec.ofInt k.bits b).toNat))
  | .andNot => some (.int k (k.wrap (BitVec.ofInt k.bits a &&& ~~~BitVec.ofInt k.bits b).toNat))
  | .eql => some (.bool (a == b))
  | .neq => some (.bool (a != b))
  | .lss => some (.bool (a < b))
  | .leq => some (.bool (a ≤ b))
  | .gtr => some (.bool (a > b))
  | .geq => some (.bool (a ≥ b))
  | _ => none
def strA (op : BinOp) (a b : ByteArray) : Option Value :=
  match op with
  | .eql => some (.bool (a.toList == b.toList))
  | .neq => some (.bool !(a.toList == b.toList))
  | .add => if a.size + b.size ≤ 1099511627776 then some (.string (a ++ b)) else none
  | .lss => some (.bool (Op.bytesLess a.toList b.toList))
  | _ => none
def fltA (op : BinOp) (x y : Value) : Option Value :=
  match x, y with
  | .float k a, .float k' b => if k = k' then runN (match op with | .add | .sub | .mul | .quo => Op.floatArith op k a b | _ => Op.floatCmp op k a b) else none
  | .complex k a b, .complex k' c d => if k = k' then runN (Op.complexOp op k a b c d) else none
  | _, _ => none
def plainO (o : Option Value) : Option Value := match o with | some v => if plainV v then some v else none | none => none
def binA (op : BinOp) (x y : Value) : Option Value :=
  match x, y with
  | .int k a, .int k' b =>
    match op with
    | .shl => if b < 0 then none else some (.int k (k.wrap (a * 2 ^ (min b.toNat k.bits))))
    | .shr => if b < 0 then none else some (.int k (a.fdiv (2 ^ (min b.toNat k.bits))))
    | _ => if k = k' then intA op k a b else none
  | .string a, .string b => strA op a b
  | x, y => plainO (fltA op x y)
def nilA : Nat → Value → Option Bool
  | 0, .slice a _ _ => some a.isNone
  | 1, .pointer a => some a.isNone
  | 2, .func _ _ _ => some false
  | 2, .nilFunc => some true
  | 3, .iface _ _ => some false
  | 3, .nilIface => some true
  | 4, .map a => some a.isNone
  | _, _ => none
def nilK : TypeDesc → Nat
  | .slice _ => 0
  | .pointer _ => 1
  | .func _ _ _ => 2
  | .interface _ => 3
  | .map _ _ => 4
  | _ => 5
def unA (op : UnOp) (x : Value) : Option Value :=
  match op, x with
  | .neg, .int k n => some (.int k (k.wrap (0 - n)))
  | .not, .bool b => some (.bool !b)
  | .xor, .int k n => intA .xor k (if k.signed then -1 else k.max) n
  | _, _ => none
def pickA (c a b : Value) : Option Value := match c with | .bool t => some (if t then a else b) | _ => none
def faA (off : Nat) (x : Value) : Option Value := match x with | .pointer (some ⟨b, o, none⟩) => some (.pointer (some ⟨b, o + off, none⟩)) | _ => none
def iaS (size : Nat) (x i : Value) : Option Value :=
  match x, i with
  | .slice (some ⟨b, o, none⟩) len _, .int _ n => if 0 ≤ n ∧ n < len then some (.pointer (some ⟨b, o + n.toNat * size, none⟩)) else none
  | _, _ => none
def iaP (len size : Nat) (x i : Value) : Option Value :=
  match x, i with
  | .pointer (some ⟨b, o, none⟩), .int _ n => if 0 ≤ n ∧ n < len then some (.pointer (some ⟨b, o + n.toNat * size, none⟩)) else none
  | _, _ => none
def optI (o : Option Value) (dflt : Nat) : Option Nat := match o with | none => some dflt | some (.int _ n) => if 0 ≤ n then some n.toNat else none | _ => none
/-- 'x[lo:hi]', 'x[lo:hi:mx]' of a slice. -/
def slA (size : Nat) (x : Value) (lo hi mx : Option Value) : Option Value :=
  match x with
  | .slice (some ⟨b, o, none⟩) len c =>
    match optI lo 0, optI hi len, mx with
    | some l, some h, none => if c % 64 = size ∧ l ≤ h ∧ h ≤ len then some (.slice (some ⟨b, o + l * size, none⟩) (h - l) (if c / 64 = 0 then size else (c / 64 - 2 * l) * 64 + size)) else none
    | some l, some h, some (.int _ m) => if c % 64 = size ∧ hi.isSome = true ∧ l ≤ h ∧ (h : Int) ≤ m ∧ m ≤ len then some (.slice (some ⟨b, o + l * size, none⟩) (h - l) ((2 * (m.toNat - l) + 1) * 64 + size)) else none
    | _, _, _ => none
  | .slice none 0 0 =>
    match optI lo 0, optI hi 0, mx with
    | some 0, some 0, none => some (.slice none 0 0)
    | some 0, some 0, some (.int _ m) => if hi.isSome = true ∧ m = 0 then some (.slice none 0 0) else none
    | _, _, _ => none
  | _ => none
def slSA (x : Value) (lo hi : Option Value) : Option Value :=
  match x with
  | .string s =>
    match optI lo 0, optI hi s.size with
    | some l, some h => if l ≤ h ∧ h ≤ s.size then some (.string (s.extract l h)) else none
    | _, _ => none
  | _ => none
def partA (n : Option Nat) (cs : Array Value) (off : Nat) : Option Value :=
  match n with
  | some k => some (.agg (cs.extract off (off + k)))
  | none => cs[off]?
def fldA (n : Option Nat) (off : Nat) (x : Value) : Option Value := match x with | .agg cs => partA n cs off | _ => none
def ixSA (x i : Value) : Option Value :=
  match x, i with
  | .string s, .int _ n => if 0 ≤ n then (s[n.toNat]?).map fun b => .int .u8 b.toNat else none
  | _, _ => none
def ixAA (n : Option Nat) (len size : Nat) (x i : Value) : Option Value :=
  match x, i with
  | .agg cs, .int _ j => if 0 ≤ j ∧ j < len then partA n cs (j.toNat * size) else none
  | _, _ => none
def extA (x : Value) (i : Nat) : Option Value := match x with | .tuple vs => vs[i]? | _ => none
def putCells (cells : List Value) (off : Nat) (vs : List Value) : List Value := cells.take off ++ vs ++ cells.drop (off + vs.length)
def isTup : Value → Bool | .tuple _ => true | _ => false
def cellsV (v : Value) : List Value := v.cells.toList
def fillA (ρ : Operand → Value) : List (Nat × Nat × Operand) → List Value → Option (List Value)
  | [], cs => some cs
  | (off, size, x) :: rest, cs => if isTup (ρ x) = false ∧ (cellsV (ρ x)).length = size ∧ off + size ≤ cs.length then fillA ρ rest (putCells cs off (cellsV (ρ x))) else none
def lenA (x : Value) : Option Value :=
  match x with
  | .slice _ n _ => some (.int .i64 n)
  | _ => none
def lenSA (x : Value) : Option Value :=
  match x with
  | .string s => some (.int .i64 s.size)
  | _ => none
def mx2 : Value → Value → Option Value
  | .int k x, .int _ y => some (.int k (if y > x then y else x))
  | _, _ => none
def mn2 : Value → Value → Option Value
  | .int k x, .int _ y => some (.int k (if y < x then y else x))
  | _, _ => none
def mxA : List Value → Option Value
  | [] => none
  | x :: rest => rest.foldlM mx2 x
def mnA : List Value → Option Value
  | [] => none
  | x :: rest => rest.foldlM mn2 x
def reA (x : Value) : Option Value := match x with | .complex k a _ => some (.float k a) | _ => none
def imA (x : Value) : Option Value := match x with | .complex k _ b => some (.float k b) | _ => none
def cxA (x y : Value) : Option Value := match x, y with | .float k a, .float k' b => if k = k' then some (.complex k a b) else none | _, _ => none
def nilcA (x : Value) : Option Value :=
  match x with
  | .pointer (some a) => some (.pointer (some a))
  | .func (.func f) xs ys => some (.func (.func f) xs ys)
  | _ => none
def eqBA (neg : Bool) (x y : Value) : Option Value := match x, y with | .bool a, .bool b => some (.bool ((a == b) != neg)) | _, _ => none
def cvIA (k : IntKind) (x : Value) : Option Value := match x with | .int _ n => some (.int k (k.wrap n)) | _ => none
def cvFA (k : FloatKind) (x : Value) : Option Value := match x with | .int _ n => some (.float k (k.nearest n)) | _ => none
def isP : Value → Bool | .agg _ => false | .tuple _ => false | .func _ xs ys => xs.isEmpty && ys.isEmpty | _ => true
def mkiA (t : TypeId) (x : Value) : Option Value := if plainA (.iface t x) then some (.iface t x) else none

def eqGA (P : Program) (op : BinOp) (t : TypeId) (x y : Operand) (a b : Value) : Option Value :=
  if plainV a && plainV b then plainO (runP P (do eqGuard op t x y a b; binOp op t a b)) else none

/-- A function without a body, whose answer is a plain value of plain values. -/
def natA (P : Program) (f : FuncId) (vs : List Value) : Option Value :=
  if vs.all plainV then match runP P (callFunc f vs.toArray) with | some (.value v) => if plainV v then some v else none | _ => none else none
def noBody (P : Program) (f : FuncId) : Bool := (P.funcs[f]?).any fun fd => fd.body.isNone

def pureA (P : Program) (o : AOp) (ρ : Operand → Value) : Option Value :=
  match o with
  | .mv x => some (ρ x)
  | .pick c a b => pickA (ρ c) (ρ a) (ρ b)
  | .bin op x y => binA op (ρ x) (ρ y)
  | .eqB neg x y => eqBA neg (ρ x) (ρ y)
  | .eqG op t x y => eqGA P op t x y (ρ x) (ρ y)
  | .isnil k neg x => (nilA k (ρ x)).map fun b => .bool (b != neg)
  | .un op x => unA op (ρ x)
  | .cvI k x => cvIA k (ρ x)
  | .cvF k x => cvFA k (ρ x)
  | .nilc x => nilcA (ρ x)
  | .fa off x => faA off (ρ x)
  | .ia size x i => iaS size (ρ x) (ρ i)
  | .iaA len size x i => iaP len size (ρ x) (ρ i)
  | .sl size x lo hi mx => slA size (ρ x) (lo.map ρ) (hi.map ρ) (mx.map ρ)
  | .slS x lo hi => slSA (ρ x) (lo.map ρ) (hi.map ρ)
  | .fld n off x => fldA n off (ρ x)
  | .ixS x i => ixSA (ρ x) (ρ i)
  | .ixA n len size x i => ixAA n len size (ρ x) (ρ i)
  | .ext x i => extA (ρ x) i
  | .bld zero parts => (fillA ρ parts zero).map fun cs => .agg cs.toArray
  | .mkf f xs ys => if (xs.map ρ).all isP && (ys.map ρ).all isP then some (.func (.func f) (xs.map ρ).toArray (ys.map ρ).toArray) else none
  | .mki t x => mkiA t (ρ x)
  | .len x => lenA (ρ x)
  | .lenS x => lenSA (ρ x)
  | .mx xs => mxA (xs.map ρ)
  | .mn xs => mnA (xs.map ρ)
  | .re x => reA (ρ x)
  | .im x => imA (ρ x)
  | .cx x y => cxA (ρ x) (ρ y)
  | .nat f xs => natA P f (xs.map ρ)
  | _ => none

/-! ### From the program's operation to the compact one -/
def sizeT (P : Program) (t : TypeId) : Option Nat := (P.info? t).map (·.size)
def aggT (P : Program) (t : TypeId) : Option (Option Nat) :=   -- how a value of the type is read: one cell, or so many
  match P.underlying t with
  | some (.struct _) | some (.array _ _) => (sizeT P t).map some
  | some _ => some none
  | none => none
def zeroT (P : Program) (t : TypeId) : Option (List Value) := (P.info? t).bind fun i => i.zero.bind fun z => if z.cells.toList.all plainL then some z.cells.toList else none
def nilX : Operand → Bool
  | .const (.slice none n c) => n == 0 && c == 0
  | .const (.pointer none) => true
  | .const .nilFunc => true
  | .const .nilIface => true
  | .const (.map none) => true
  | _ => false
def nilFits (d : TypeDesc) (x : Operand) : Bool :=
  match d, x with
  | .slice _, .const (.slice none n c) => n == 0 && c == 0
  | .pointer _, .const (.pointer none) => true
  | .func _ _ _, .const .nilFunc => true
  | .interface _, .const .nilIface => true
  | .map _ _, .const (.map none) => true
  | _, _ => false
def partsS (places : List (Nat × Nat)) (ps : List (Nat × Operand)) : Option (List (Nat × Nat × Operand)) :=
  ps.mapM fun p => (places[p.1]?).map fun q => (q.1, q.2, p.2)
def flatOp (P : Program) (op : Op) (ty : TypeId) : Option AOp :=
  if op.operands.all (okX P.globals.size) then
  match op with
  | .move x | .assign x => some (.mv x)
  | .pick c a b => some (.pick c a b)
  | .binOp op t x y _ =>
    if op == .eql || op == .neq then
      match P.underlying t with
      | some d =>
        if nilFits d y then some (.isnil (nilK d) (op == .neq) x)
        else if nilFits d x then some (.isnil (nilK d) (op == .neq) y)
        else match d with
          | .bool => some (.eqB (op == .neq) x y)
          | .int _ | .string | .float _ | .complex _ => some (.bin op x y)
          | .struct _ | .array _ _ => some (.eqG op t x y)
          | _ => none
      | none => none
    else some (.bin op x y)
  | .unOp op _ x => some (.un op x)
  | .convert s d x =>
    match P.underlying s, P.underlying d with
    | some (.int _), some (.int k) => some (.cvI k x)
    | some (.int _), some (.float k) => some (.cvF k x)
    | _, _ => none
  | .nilCheck x => some (.nilc x)
  | .fieldAddr s x f =>
    match P.underlying s with
    | some (.struct fs) => (fs[f]?).bind fun fl => (sizeT P fl.type).bind fun n => if n = 0 then none else some (.fa fl.offset x)
    | _ => none
  | .indexAddr t x i =>
    match P.underlying t with
    | some (.slice e) => (sizeT P e).map fun n => .ia n x i
    | some (.array len e) => (sizeT P e).map fun n => .iaA len n x i
    | _ => none
  | .slice t x lo hi mx =>
    match P.underlying t with
    | some (.slice e) => (sizeT P e).map fun n => .sl n x lo hi mx
    | some .string => if mx.isSome then none else some (.slS x lo hi)
    | _ => none
  | .field t x f =>
    match P.underlying t with
    | some (.struct fs) => (fs[f]?).bind fun fl => (aggT P fl.type).map fun n => .fld n fl.offset x
    | _ => none
  | .index t x i =>
    match P.underlying t with
    | some .string => some (.ixS x i)
    | some (.array len e) => (aggT P e).bind fun n => (sizeT P e).map fun s => .ixA n len s x i
    | _ => none
  | .extract t i => some (.ext t i)
  | .build t ps =>
    match P.underlying t with
    | some (.struct fs) => (fs.toList.mapM (fun f => (P.info? f.type).map fun i => (f.offset, i.size))).bind fun places => (zeroT P t).bind fun z => (partsS places ps.toList).map fun qs => .bld z qs
    | some (.array _ e) => (zeroT P t).bind fun z => (sizeT P e).map fun s => .bld z (ps.toList.map fun p => (p.1 * s, s, p.2))
    | _ => none
  | .makeFunc (.func f) xs ys => some (.mkf f xs.toList ys.toList)
  | .makeInterface t x => match P.underlying t with | some (.interface _) => none | some _ => some (.mki t x) | none => none
  | .load t a => (aggT P t).map fun n => .ld n a
  | .store t a v => (sizeT P t).map fun n => .st n a v
  | .alloc t => (zeroT P t).map .al
  | .box _ x => some (.bx x)
  | .buildSlice t len ps =>
    match P.underlying t with
    | some (.slice e) => (sizeT P e).bind fun s => (zeroT P e).bind fun z => if s = z.length ∧ 0 < s ∧ s < 64 ∧ len * s ≤ 16777216 then some (.bs len s z (ps.toList.map fun p => (p.1 * s, s, p.2))) else none
    | _ => none
  | .makeSlice t l c =>
    match P.underlying t with
    | some (.slice e) => (P.info? e).bind fun i => (zeroT P e).bind fun z => if i.size = z.length ∧ 0 < i.size ∧ i.size < 64 then some (.ms i.size i.bytes z l c) else none
    | _ => none
  | .call c =>
    match c.callee with
    | .value (.func f) => if noBody P f then some (.nat f c.args.toList) else none
    | .builtin .len => match (c.argTypes[0]?).bind P.underlying, c.args.toList with
      | some .string, [x] => some (.lenS x)
      | some (.slice _), [x] => some (.len x)
      | _, _ => none
    | .builtin .max => some (.mx c.args.toList)
    | .builtin .min => some (.mn c.args.toList)
    | .builtin .real => match c.args.toList with | [x] => some (.re x) | _ => none
    | .builtin .imag => match c.args.toList with | [x] => some (.im x) | _ => none
    | .builtin .complex => match c.args.toList with | [x, y] => some (.cx x y) | _ => none
    | .builtin .append => match c.args.toList, c.argTypes.toList with
      | [s, x], [t, u] => if t = u then match P.underlying t with
        | some (.slice e) => (P.info? e).bind fun i => (zeroT P e).bind fun z => if i.size = z.length ∧ 0 < i.size ∧ i.size < 64 ∧ i.bytes ≤ 4096 then some (.app i.size i.bytes z s x) else none
        | _ => none else none
      | _, _ => none
    | .builtin .clear => match c.args.toList, (c.argTypes[0]?).bind P.underlying with
      | [x], some (.slice e) => (zeroT P e).bind fun z => (sizeT P e).bind fun s => if s = z.length ∧ 0 < s then some (.clr s z x) else none
      | _, _ => none
    | _ => none
  | _ => none
  else none
def isCtl : AOp → Bool
  | .call _ _ => true
  | .dyn _ _ => true
  | .pan _ => true
  | _ => false
def flatC (P : Program) (op : Op) : Option AOp :=
  if op.operands.all (okX P.globals.size) then
  match op with
  | .call c =>
    match c.callee with
    | .value (.func f) => if noBody P f then none else some (.call f c.args.toList)
    | .value (.tmp t) => some (.dyn (.tmp t) c.args.toList)
    | _ => none
  | .panic x => some (.pan x)
  | _ => none
  else none
/-- The compact operation of an operation. -/
def flatX (P : Program) (op : Op) (ty : TypeId) : Option AOp :=
  match flatC P op with
  | some o => some o
  | none => match flatOp P op ty with
    | some o => if isCtl o then none else some o
    | none => none
end Go.Ab

namespace Go.Ab
open Go

/-! ### What a relation says of a value of a known form -/
theorem lrel_plain {s : Sig} {v u : Value} (r : LRel s v u) (h : plainL v = true) : u = v := by
  cases r with
  | base r =>
    cases r with
    | plain => rfl
    | iface => rfl
    | ptr => simp [plainL] at h
    | slice => simp [plainL] at h
    | slice0 => simp [plainL] at h
    | map => simp [plainL] at h
  | func fn xs ys zs us h1 h2 =>
    simp only [plainL, Bool.and_eq_true, List.isEmpty_toArray, List.isEmpty_iff] at h
    obtain ⟨rfl, rfl⟩ := h
    have e1 : zs = [] := List.eq_nil_of_length_eq_zero h1.1.symm
    have e2 : us = [] := List.eq_nil_of_length_eq_zero h2.1.symm
    rw [e1, e2]
theorem all2_plain {s : Sig} {xs ys : List Value} (h : All2 (LRel s) xs ys) (k : xs.all plainL = true) : ys = xs :=
  h.eq fun a b ha r => lrel_plain r (by simpa using (List.all_eq_true.1 k) a ha)
theorem arel_plain {s : Sig} {v u : Value} (r : ARel s v u) (h : plainA v = true) : u = v := by
  cases r with
  | one r =>
    cases r with
    | base r =>
      cases r with
      | plain => rfl
      | iface => rfl
      | ptr => simp [plainA, plainL] at h
      | slice => simp [plainA, plainL] at h
      | slice0 => simp [plainA, plainL] at h
      | map => simp [plainA, plainL] at h
    | func fn xs ys zs us h1 h2 => exact lrel_plain (.func fn xs ys zs us h1 h2) (by simpa [plainA] using h)
  | agg xs ys h1 =>
    have : xs.all plainL = true := by simpa [plainA] using h
    rw [all2_plain h1 this]
theorem vrel_plain {s : Sig} {v u : Value} (r : VRel s v u) (h : plainV v = true) : u = v := by
  cases r with
  | one r =>
    refine arel_plain r ?_
    cases v with
    | tuple vs =>
      cases r with
      | one r => cases r with
        | base r => cases r with
          | plain _ h => simp [plainL] at h
    | _ => simpa [plainV] using h
  | tup xs ys h1 =>
    have h2 : xs.all plainA = true := by simpa [plainV] using h
    have : ys = xs := h1.eq fun a b ha r => arel_plain r (by simpa using (List.all_eq_true.1 h2) a ha)
    rw [this]
theorem lrel_of_plain {s : Sig} {v : Value} (h : plainL v = true) : LRel s v v := .base (.plain v h)
theorem all2_of_plain {s : Sig} {xs : List Value} (h : xs.all plainL = true) : All2 (LRel s) xs xs :=
  ⟨rfl, fun i a b ha hb => by rw [ha] at hb; obtain rfl := Option.some.inj hb; exact lrel_of_plain (by simpa using (List.all_eq_true.1 h) a (List.mem_of_getElem? ha))⟩
theorem arel_of_plain {s : Sig} {v : Value} (h : plainA v = true) : ARel s v v := by
  cases v with
  | agg cs => obtain ⟨l⟩ := cs; exact .agg l l (all2_of_plain (by simpa [plainA] using h))
  | iface t v => exact .one (.base (.iface t v h))
  | _ => exact .one (.base (.plain _ (by simpa [plainA] using h)))
theorem vrel_of_plain {s : Sig} {v : Value} (h : plainV v = true) : VRel s v v := by
  cases v with
  | tuple vs =>
    obtain ⟨l⟩ := vs
    refine .tup l l ⟨rfl, fun i a b ha hb => ?_⟩
    rw [ha] at hb
    obtain rfl := Option.some.inj hb
    have h2 : l.all plainA = true := by simpa [plainV] using h
    exact arel_of_plain (by simpa using (List.all_eq_true.1 h2) a (List.mem_of_getElem? ha))
  | _ => exact .one (arel_of_plain (by simpa [plainV] using h))

/-- What a pointer is related to. -/
theorem vrel_ptr {s : Sig} {b off : Nat} {sp : Option Nat} {u : Value} (r : VRel s (.pointer (some ⟨b, off, sp⟩)) u) :
    ∃ g d m, s b = some (g, d, m) ∧ sp = none ∧ u = .pointer (some ⟨g, off + d, none⟩) := by
  cases r with
  | one r => cases r with
    | one r => cases r with
      | base r => cases r with
        | plain _ h => simp [plainL] at h
        | ptr b g d m off h => exact ⟨g, d, m, h, rfl, rfl⟩
theorem vrel_slice {s : Sig} {a : Addr} {n c : Nat} {u : Value} (r : VRel s (.slice (some a) n c) u) :
    (∃ b g d m off c', a = ⟨b, off, none⟩ ∧ s b = some (g, d, m) ∧ n ≤ c' ∧ (c / 64 = 0 ∨ c / 64 = 2 * c' + 1) ∧ off + c' * (c % 64) ≤ m ∧ u = .slice (some ⟨g, off + d, none⟩) n c') ∨
    (∃ a', n = 0 ∧ (c / 64 = 0 ∨ c / 64 = 1) ∧ u = .slice (some a') 0 0) := by
  cases r with
  | one r => cases r with
    | one r => cases r with
      | base r => cases r with
        | plain _ h => simp [plainL] at h
        | slice b g d m off n c c' h1 h2 h3 h4 => exact .inl ⟨b, g, d, m, off, c', rfl, h1, h2, h3, h4, rfl⟩
        | slice0 a a' c h => exact .inr ⟨a', rfl, h, rfl⟩
theorem vrel_agg {s : Sig} {cs : Array Value} {u : Value} (r : VRel s (.agg cs) u) : ∃ ys, u = .agg ys ∧ All2 (LRel s) cs.toList ys.toList := by
  cases r with
  | one r => cases r with
    | one r => cases r with
      | base r => cases r with
        | plain _ h => simp [plainL] at h
    | agg xs ys h => exact ⟨_, rfl, by simpa using h⟩
theorem vrel_tup {s : Sig} {cs : Array Value} {u : Value} (r : VRel s (.tuple cs) u) : ∃ ys, u = .tuple ys ∧ All2 (ARel s) cs.toList ys.toList := by
  cases r with
  | one r => cases r with
    | one r => cases r with
      | base r => cases r with
        | plain _ h => simp [plainL] at h
  | tup xs ys h => exact ⟨_, rfl, by simpa using h⟩
theorem vrel_func {s : Sig} {fn : Fn} {xs ys : Array Value} {u : Value} (r : VRel s (.func fn xs ys) u) :
    ∃ zs us, u = .func fn zs us ∧ All2 (PRel s) xs.toList zs.toList ∧ All2 (PRel s) ys.toList us.toList := by
  cases r with
  | one r => cases r with
    | one r => cases r with
      | base r => cases r with
        | plain _ h =>
          simp only [plainL, Bool.and_eq_true, Array.isEmpty_iff] at h
          obtain ⟨rfl, rfl⟩ := h
          exact ⟨#[], #[], rfl, All2.nil, All2.nil⟩
      | func fn xs ys zs us h1 h2 => exact ⟨_, _, rfl, by simpa using h1, by simpa using h2⟩
/-- A value is one cell, an aggregate's are related cell by cell; a tuple has no cells. -/
theorem vrel_cells {s : Sig} {v u : Value} (r : VRel s v u) (h : isTup v = false) : All2 (LRel s) (cellsV v) (cellsV u) ∧ isTup u = false := by
  cases r with
  | one r => cases r with
    | one r =>
      have key : cellsV v = [v] ∧ cellsV u = [u] ∧ isTup u = false := by
        cases r with
        | base r => cases r with
          | plain _ h => cases v <;> simp_all [cellsV, Value.cells, plainL, isTup]
          | _ => simp [cellsV, Value.cells, isTup]
        | func => simp [cellsV, Value.cells, isTup]
      rw [key.1, key.2.1]
      exact ⟨All2.cons r All2.nil, key.2.2⟩
    | agg xs ys h1 => exact ⟨by simpa [cellsV, Value.cells] using h1, rfl⟩
  | tup => simp [isTup] at h
theorem vrel_one {s : Sig} {v u : Value} (r : LRel s v u) : VRel s v u := .one (.one r)
theorem lrel_of_vrel {s : Sig} {v u : Value} (r : VRel s v u) (h : ∀ cs, v ≠ .agg cs) (ht : isTup v = false) : LRel s v u := by
  cases r with
  | one r => cases r with
    | one r => exact r
    | agg xs ys h1 => exact absurd rfl (h _)
  | tup => simp [isTup] at ht
end Go.Ab

namespace Go.Ab
open Go

section
variable {P : Program} {s : Sig}

theorem plainV_int (k : IntKind) (n : Int) : plainV (.int k n) = true := rfl
theorem plainV_bool (b : Bool) : plainV (.bool b) = true := rfl
theorem plainV_string (b : ByteArray) : plainV (.string b) = true := rfl
theorem vrel_int (k : IntKind) (n : Int) : VRel s (.int k n) (.int k n) := vrel_of_plain rfl
theorem vrel_bool (b : Bool) : VRel s (.bool b) (.bool b) := vrel_of_plain rfl
theorem vrel_string (b : ByteArray) : VRel s (.string b) (.string b) := vrel_of_plain rfl

theorem intA_plain {op : BinOp} {k : IntKind} {a b : Int} {v : Value} (h : intA op k a b = some v) : plainV v = true := by
  cases op <;> simp only [intA, Option.some.injEq] at h <;> first
    | (subst h; rfl)
    | (split at h <;> first | (simp at h; done) | (simp only [Option.some.injEq] at h; subst h; rfl))
    | (simp at h; done)
theorem intA_run {op : BinOp} {k : IntKind} {a b : Int} {v : Value} (h : intA op k a b = some v) (t : TypeId) (w : World) :
    (binOp op t (.int k a) (.int k b)).run P w = .ok v w := by
  cases op <;> simp only [intA, Option.some.injEq] at h <;> first
    | (subst h; simp [binOp, Op.intArith, Op.intBits, Op.intCmp]; done)
    | (split at h <;> first | (simp at h; done) | (rename_i h0; simp only [Option.some.injEq] at h; subst h; simp [binOp, Op.intDiv, h0]; done))
    | (simp at h; done)
theorem strA_run {op : BinOp} {a b : ByteArray} {v : Value} (h : strA op a b = some v) (t : TypeId) (w : World) :
    (binOp op t (.string a) (.string b)).run P w = .ok v w ∧ plainV v = true := by
  cases op <;> simp only [strA, Option.some.injEq] at h <;> first
    | (subst h; simp [binOp, Op.stringOp, plainV, plainA, plainL]; done)
    | (split at h <;> first | (simp at h; done) | (rename_i h0; simp only [Option.some.injEq] at h; subst h; refine ⟨?_, rfl⟩; simp [binOp, Op.stringOp, IntKind.max, IntKind.bits, IntKind.signed]; omega))
    | (simp at h; done)
theorem eqGuard_int (op : BinOp) (t : TypeId) (x y : Operand) (k k' : IntKind) (a b : Int) (w : World) : (eqGuard op t x y (.int k a) (.int k' b)).run P w = .ok () w := by
  unfold eqGuard; cases op <;> rfl
theorem eqGuard_string (op : BinOp) (t : TypeId) (x y : Operand) (a b : ByteArray) (w : World) : (eqGuard op t x y (.string a) (.string b)).run P w = .ok () w := by
  unfold eqGuard; cases op <;> rfl
theorem eqGuard_bool (op : BinOp) (t : TypeId) (x y : Operand) (a b : Bool) (w : World) : (eqGuard op t x y (.bool a) (.bool b)).run P w = .ok () w := by
  unfold eqGuard; cases op <;> rfl
theorem eqGuard_float (op : BinOp) (t : TypeId) (x y : Operand) (k k' : FloatKind) (a b : Nat) (w : World) : (eqGuard op t x y (.float k a) (.float k' b)).run P w = .ok () w := by
  unfold eqGuard; cases op <;> rfl
theorem eqGuard_complex (op : BinOp) (t : TypeId) (x y : Operand) (k k' : FloatKind) (a b c d : Nat) (w : World) : (eqGuard op t x y (.complex k a b) (.complex k' c d)).run P w = .ok () w := by
  unfold eqGuard; cases op <;> rfl

theorem bin_sound {op : BinOp} {x y x' y' v : Value} (h : binA op x y = some v) (rx : VRel s x x') (ry : VRel s y y') (t : TypeId) (X Y : Operand) :
    plainV v = true ∧ ∀ w, (do eqGuard op t X Y x' y'; binOp op t x' y' : Sem Value).run P w = .ok v w := by
  unfold binA at h
  split at h
  · rename_i k a k' b
    obtain rfl := vrel_plain rx rfl
    obtain rfl := vrel_plain ry rfl
    split at h
    · split at h
      · simp at h
      · rename_i h0
        simp only [Option.some.injEq] at h; subst h
        refine ⟨rfl, fun w => ?_⟩
        simp [eqGuard_int, binOp, Op.shift, h0]
    · split at h
      · simp at h
      · rename_i h0
        simp only [Option.some.injEq] at h; subst h
        refine ⟨rfl, fun w => ?_⟩
        simp [eqGuard_int, binOp, Op.shift, h0]
    · split at h
      · rename_i hk; subst hk
        exact ⟨intA_plain h, fun w => by simp [eqGuard_int, intA_run h]⟩
      · simp at h
  · obtain rfl := vrel_plain rx rfl
    obtain rfl := vrel_plain ry rfl
    exact ⟨(strA_run (P := P) h t default).2, fun w => by simp [eqGuard_string, (strA_run (P := P) h t w).1]⟩
  · unfold plainO at h
    split at h
    · rename_i u hu
      split at h
      · rename_i hpl
        simp only [Option.some.injEq] at h; subst h
        refine ⟨hpl, fun w => ?_⟩
        unfold fltA at hu
        split at hu
        · obtain rfl := vrel_plain rx rfl
          obtain rfl := vrel_plain ry rfl
          split at hu
          · rename_i hk; subst hk
            have := runN_run (P := P) hu w
            simp only [Sem.run_bind, eqGuard_float, Result.andThen_ok]
            rw [← this]
            cases op <;> simp [binOp]
          · simp at hu
        · obtain rfl := vrel_plain rx rfl
          obtain rfl := vrel_plain ry rfl
          split at hu
          · rename_i hk; subst hk
            have := runN_run (P := P) hu w
            simp only [Sem.run_bind, eqGuard_complex, Result.andThen_ok]
            rw [← this]
            cases op <;> simp [binOp]
          · simp at hu
        · simp at hu
      · simp at h
    · simp at h
end
end Go.Ab

namespace Go.Ab
open Go

section
variable {P : Program} {s : Sig}

theorem nilA_rel {k : Nat} {v u : Value} {b : Bool} (h1 : nilA k v = some b) (r : VRel s v u) : nilA k u = some b := by
  unfold nilA at h1
  split at h1
  · rename_i a n c
    cases a with
    | none =>
      cases r with
      | one r => cases r with
        | one r => cases r with
          | base r => cases r with
            | plain _ h => exact h1
    | some a =>
      rcases vrel_slice r with ⟨_, _, _, _, _, _, _, _, _, _, _, rfl⟩ | ⟨_, _, _, rfl⟩ <;> exact h1
  · rename_i a
    cases a with
    | none => rw [vrel_plain r rfl]; exact h1
    | some a => obtain ⟨a1, a2, a3⟩ := a; obtain ⟨_, _, _, _, _, rfl⟩ := vrel_ptr r; exact h1
  · obtain ⟨_, _, rfl, _⟩ := vrel_func r; exact h1
  · rw [vrel_plain r rfl]; exact h1
  · cases r with
    | one r => cases r with
      | one r => cases r with
        | base r => cases r with
          | plain _ h => exact h1
          | iface => exact h1
  · rw [vrel_plain r rfl]; exact h1
  · rename_i a
    cases r with
    | one r => cases r with
      | one r => cases r with
        | base r => cases r with
          | plain _ h => exact h1
          | map => exact h1
  · simp at h1
/-- '==' where the type's own test answers. -/
theorem eq_run {t : TypeId} {x y : Value} {b : Bool} {w : World} (h : ∀ d w, (Op.equalIn (d + 1) t x y).run P w = .ok b w) (op : BinOp) (hop : op = .eql ∨ op = .neq)
    (hx : ∀ k n, x ≠ .int k n) (hx2 : ∀ k n, x ≠ .float k n) (hx3 : ∀ k n m, x ≠ .complex k n m) (hx4 : ∀ n, x ≠ .string n) :
    (binOp op t x y).run P w = .ok (.bool (b != (op == .neq))) w := by
  have h' := h 9999 w
  rcases hop with rfl | rfl
  · cases x <;> first | exact absurd rfl (hx _ _) | exact absurd rfl (hx2 _ _) | exact absurd rfl (hx3 _ _ _) | exact absurd rfl (hx4 _) | (simp only [binOp, Op.equal, Op.maxDepth, Sem.run_bind, h', Result.andThen_ok, Sem.run_pure]; cases b <;> rfl)
  · cases x <;> first | exact absurd rfl (hx _ _) | exact absurd rfl (hx2 _ _) | exact absurd rfl (hx3 _ _ _) | exact absurd rfl (hx4 _) | (simp only [binOp, Op.equal, Op.maxDepth, Sem.run_bind, h', Result.andThen_ok, Sem.run_pure]; cases b <;> rfl)
set_option maxHeartbeats 8000000 in
theorem nil_sound {d : TypeDesc} {t : TypeId} {v : Value} {y : Operand} {b : Bool} (hd : P.underlying t = some d) (hy : nilFits d y = true) (hb : nilA (nilK d) v = some b)
    (e : Operand → Value) (he : ∀ u, e (.const u) = u) (X : Operand) (w : World) (op : BinOp) (hop : op = .eql ∨ op = .neq) :
    ((do eqGuard op t X y v (e y); binOp op t v (e y) : Sem Value).run P w = .ok (.bool (b != (op == .neq))) w) ∧
    ((do eqGuard op t y X (e y) v; binOp op t (e y) v : Sem Value).run P w = .ok (.bool (b != (op == .neq))) w) := by
  have hun := fun w => run_underlying hd w
  have key : ∃ u, y = .const u ∧ (∀ d' w, (Op.equalIn (d' + 1) t v u).run P w = .ok b w) ∧ (∀ d' w, (Op.equalIn (d' + 1) t u v).run P w = .ok b w) ∧
      (∀ w, (eqGuard op t X y v u).run P w = .ok () w) ∧ (∀ w, (eqGuard op t y X u v).run P w = .ok () w) ∧
      (∀ z, z = u ∨ z = v → (∀ k n, z ≠ .int k n) ∧ (∀ k n, z ≠ .float k n) ∧ (∀ k n m, z ≠ .complex k n m) ∧ (∀ n, z ≠ .string n)) := by
    unfold nilFits at hy
    split at hy
    · rename_i el n c
      simp only [Bool.and_eq_true, beq_iff_eq] at hy
      obtain ⟨rfl, rfl⟩ := hy
      cases v with
      | slice a n c =>
        simp only [nilA, nilK, Option.some.injEq] at hb; subst hb
        refine ⟨_, rfl, ?_, ?_, ?_, ?_, ?_⟩
        · intro d' w; cases a <;> simp [Op.equalIn, hun]
        · intro d' w; cases a <;> simp [Op.equalIn, hun]
        · intro w; unfold eqGuard; rcases hop with rfl | rfl <;> rfl
        · intro w; unfold eqGuard; rcases hop with rfl | rfl <;> rfl
        · rintro z (rfl | rfl) <;> simp
      | _ => simp [nilA, nilK] at hb
    · rename_i el
      cases v with
      | pointer a =>
        simp only [nilA, nilK, Option.some.injEq] at hb; subst hb
        refine ⟨_, rfl, ?_, ?_, ?_, ?_, ?_⟩
        · intro d' w; cases a <;> simp [Op.equalIn, hun]
        · intro d' w; cases a <;> simp [Op.equalIn, hun]
        · intro w; unfold eqGuard; rcases hop with rfl | rfl <;> rfl
        · intro w; unfold eqGuard; rcases hop with rfl | rfl <;> rfl
        · rintro z (rfl | rfl) <;> simp
      | _ => simp [nilA, nilK] at hb
    · rename_i el
      cases v with
      | func fn xs ys =>
        simp only [nilA, nilK, Option.some.injEq] at hb; subst hb
        refine ⟨_, rfl, ?_, ?_, ?_, ?_, ?_⟩
        · intro d' w; simp [Op.equalIn, hun]
        · intro d' w; simp [Op.equalIn, hun]
        · intro w; unfold eqGuard; rcases hop with rfl | rfl <;> rfl
        · intro w; unfold eqGuard; rcases hop with rfl | rfl <;> rfl
        · rintro z (rfl | rfl) <;> simp
      | nilFunc =>
        simp only [nilA, nilK, Option.some.injEq] at hb; subst hb
        refine ⟨_, rfl, ?_, ?_, ?_, ?_, ?_⟩
        · intro d' w; simp [Op.equalIn, hun]
        · intro d' w; simp [Op.equalIn, hun]
        · intro w; unfold eqGuard; rcases hop with rfl | rfl <;> rfl
        · intro w; unfold eqGuard; rcases hop with rfl | rfl <;> rfl
        · rintro z (rfl | rfl) <;> simp
      | _ => simp [nilA, nilK] at hb
    · rename_i el
      cases v with
      | iface t u =>
        simp only [nilA, nilK, Option.some.injEq] at hb; subst hb
        refine ⟨_, rfl, ?_, ?_, ?_, ?_, ?_⟩
        · intro d' w; simp [Op.equalIn, hun]
        · intro d' w; simp [Op.equalIn, hun]
        · intro w; unfold eqGuard; rcases hop with rfl | rfl <;> rfl
        · intro w; unfold eqGuard; rcases hop with rfl | rfl <;> rfl
        · rintro z (rfl | rfl) <;> simp
      | nilIface =>
        simp only [nilA, nilK, Option.some.injEq] at hb; subst hb
        refine ⟨_, rfl, ?_, ?_, ?_, ?_, ?_⟩
        · intro d' w; simp [Op.equalIn, hun]
        · intro d' w; simp [Op.equalIn, hun]
        · intro w; unfold eqGuard; rcases hop with rfl | rfl <;> simp
        · intro w; unfold eqGuard; rcases hop with rfl | rfl <;> simp
        · rintro z (rfl | rfl) <;> simp
      | _ => simp [nilA, nilK] at hb
    · rename_i el
      cases v with
      | map a =>
        simp only [nilA, nilK, Option.some.injEq] at hb; subst hb
        refine ⟨_, rfl, ?_, ?_, ?_, ?_, ?_⟩
        · intro d' w; cases a <;> simp [Op.equalIn, hun]
        · intro d' w; cases a <;> simp [Op.equalIn, hun]
        · intro w; unfold eqGuard; rcases hop with rfl | rfl <;> rfl
        · intro w; unfold eqGuard; rcases hop with rfl | rfl <;> rfl
        · rintro z (rfl | rfl) <;> simp
      | _ => simp [nilA, nilK] at hb
    · simp at hy
  obtain ⟨u, rfl, h1, h2, h3, h4, h5⟩ := key
  rw [he]
  have k1 := h5 v (.inr rfl)
  have k2 := h5 u (.inl rfl)
  refine ⟨?_, ?_⟩
  · simp only [Sem.run_bind, h3, Result.andThen_ok]; exact eq_run h1 op hop k1.1 k1.2.1 k1.2.2.1 k1.2.2.2
  · simp only [Sem.run_bind, h4, Result.andThen_ok]; exact eq_run h2 op hop k2.1 k2.2.1 k2.2.2.1 k2.2.2.2
set_option maxHeartbeats 8000000 in
theorem eqB_run {t : TypeId} (ht : P.underlying t = some .bool) (a b : Bool) (op : BinOp) (hop : op = .eql ∨ op = .neq) (X Y : Operand) (w : World) :
    (do eqGuard op t X Y (.bool a) (.bool b); binOp op t (.bool a) (.bool b) : Sem Value).run P w = .ok (.bool ((a == b) != (op == .neq))) w := by
  simp only [Sem.run_bind, eqGuard_bool, Result.andThen_ok]
  exact eq_run (fun d w => by simp [Op.equalIn, run_underlying ht]) op hop (by simp) (by simp) (by simp) (by simp)
end
end Go.Ab

namespace Go.Ab
open Go

section
variable {P : Program} {s : Sig}

theorem add_none (b o n : Nat) : (⟨b, o, none⟩ : Addr).add n = ⟨b, o + n, none⟩ := by unfold Addr.add; split <;> simp_all
theorem run_sizeOf {t : TypeId} {n : Nat} (h : sizeT P t = some n) (w : World) : (sizeOf t).run P w = .ok n w := by
  unfold sizeT at h
  cases hi : P.info? t with
  | none => simp [hi] at h
  | some i => simp [hi] at h; subst h; simp [sizeOf, typeInfo, hi]
theorem run_isAgg {t : TypeId} {n : Option Nat} (h : aggT P t = some n) (w : World) : (isAgg t).run P w = .ok n.isSome w ∧ (∀ k, n = some k → sizeT P t = some k) := by
  unfold aggT at h
  split at h
  · rename_i hd
    simp only [Option.map_eq_some_iff] at h
    obtain ⟨k, hk, rfl⟩ := h
    exact ⟨by simp [isAgg, run_underlying hd], fun k' e => by simp at e; subst e; exact hk⟩
  · rename_i hd
    simp only [Option.map_eq_some_iff] at h
    obtain ⟨k, hk, rfl⟩ := h
    exact ⟨by simp [isAgg, run_underlying hd], fun k' e => by simp at e; subst e; exact hk⟩
  · rename_i d h1 h2 hd
    simp at h; subst h
    refine ⟨?_, by simp⟩
    simp only [isAgg, Sem.run_bind, run_underlying hd, Result.andThen_ok]
    cases d <;> first | rfl | exact absurd rfl (h1 _) | exact absurd rfl (h2 _ _)
  · simp at h

def RelO (s : Sig) : Option Value → Option Value → Prop
  | none, none => True
  | some a, some b => VRel s a b
  | _, _ => False
theorem optI_rel {o : Option Value} {o' : Option Value} {d n : Nat} (h : optI o d = some n) (hr : RelO s o o') :
    (o = none ∧ o' = none ∧ n = d) ∨ ∃ k m, o = some (.int k m) ∧ o' = some (.int k m) ∧ 0 ≤ m ∧ n = m.toNat := by
  cases o with
  | none =>
    cases o' with
    | none => left; simp [optI] at h; exact ⟨rfl, rfl, h.symm⟩
    | some u => exact hr.elim
  | some v =>
    cases o' with
    | none => exact hr.elim
    | some u =>
      cases v with
      | int k m =>
        obtain rfl := vrel_plain hr rfl
        simp only [optI] at h
        split at h
        · rename_i h0; simp at h; exact .inr ⟨k, m, rfl, rfl, h0, h.symm⟩
        · simp at h
      | _ => simp [optI] at h

theorem run_sliceBound {k : IntKind} {m : Int} {y : Nat} {c : BoundsCode} (h0 : 0 ≤ m) (h1 : m ≤ y) (w : World) : (Instr.sliceBound (.int k m) y c).run P w = .ok m.toNat w := by
  simp [Instr.sliceBound, asIntOf, h0, h1]

theorem sl_sound {t e : TypeId} {size : Nat} (ht : P.underlying t = some (.slice e)) (hsz : sizeT P e = some size) {x x' v : Value} {lo hi mx lo' hi' mx' : Option Value}
    (h : slA size x lo hi mx = some v) (rx : VRel s x x')
    (rl : RelO s lo lo')
    (rh : RelO s hi hi')
    (rm : RelO s mx mx') :
    ∃ v', VRel s v v' ∧ ∀ w, (Instr.sliceAt t x' lo' hi' mx').run P w = .ok v' w := by
  have hu := fun w => run_underlying ht w
  have hs := fun w => run_sizeOf (P := P) hsz w
  -- the bounds, run
  have bnds : ∀ (len cap l hh : Nat) (m : Nat), optI lo 0 = some l → optI hi len = some hh → l ≤ hh → hh ≤ len → len ≤ cap →
      ((mx = none ∧ m = cap) ∨ ∃ k j, mx = some (.int k j) ∧ 0 ≤ j ∧ m = j.toNat ∧ hh ≤ m ∧ m ≤ cap ∧ hi.isSome = true) →
      ∀ w, (Instr.sliceBounds true len cap lo' hi' mx').run P w = .ok (l, hh, m) w := by
    intro len cap l hh m hl hhi hlh hhl hlc hm w
    have a := optI_rel hl rl
    have b := optI_rel hhi rh
    rcases hm with ⟨rfl, rfl⟩ | ⟨k, j, rfl, hj0, rfl, hjm, hjc, hs⟩
    · cases mx' with
      | some u => exact rm.elim
      | none =>
        rcases b with ⟨rfl, rfl, rfl⟩ | ⟨k2, m2, rfl, rfl, h20, rfl⟩
        · rcases a with ⟨rfl, rfl, rfl⟩ | ⟨k1, m1, rfl, rfl, h10, rfl⟩
          · simp [Instr.sliceBounds]
          · simp [Instr.sliceBounds, run_sliceBound h10 (show m1 ≤ (hh : Int) by omega)]
        · have e1 := run_sliceBound (P := P) (k := k2) (c := .sliceAcap) h20 (show m2 ≤ (m : Int) by omega) w
          rcases a with ⟨rfl, rfl, rfl⟩ | ⟨k1, m1, rfl, rfl, h10, rfl⟩
          · simp [Instr.sliceBounds, e1]
          · simp [Instr.sliceBounds, e1, run_sliceBound h10 (show m1 ≤ (m2.toNat : Int) by omega)]
    · cases mx' with
      | none => exact rm.elim
      | some u =>
        obtain rfl := vrel_plain rm rfl
        have e0 := run_sliceBound (P := P) (k := k) (c := .slice3Acap) hj0 (show j ≤ (cap : Int) by omega) w
        rcases b with ⟨rfl, rfl, rfl⟩ | ⟨k2, m2, rfl, rfl, h20, rfl⟩
        · simp at hs
        · have e1 := run_sliceBound (P := P) (k := k2) (c := .slice3B) h20 (show m2 ≤ (j.toNat : Int) by omega) w
          rcases a with ⟨rfl, rfl, rfl⟩ | ⟨k1, m1, rfl, rfl, h10, rfl⟩
          · simp [Instr.sliceBounds, e0, e1]
          · simp [Instr.sliceBounds, e0, e1, run_sliceBound h10 (show m1 ≤ (m2.toNat : Int) by omega)]
  have run : ∀ (a : Option Addr) (len cap l hh m : Nat), x' = .slice a len cap → (∀ w, (Instr.sliceBounds true len cap lo' hi' mx').run P w = .ok (l, hh, m) w) →
      ∀ w, (Instr.sliceAt t x' lo' hi' mx').run P w = .ok (.slice (if m = l then a else a.map (·.add (l * size))) (hh - l) (m - l)) w := by
    intro a len cap l hh m e hb w
    subst e
    simp [Instr.sliceAt, Instr.slice, hu, hb, hs]
  unfold slA at h
  split at h
  · rename_i b o len c
    split at h
    · -- no third bound
      rename_i l hh hl hhi
      split at h
      · rename_i hc
        simp only [Option.some.injEq] at h; subst h
        cases mx' with
        | some u => exact rm.elim
        | none =>
        rcases vrel_slice rx with ⟨b1, g, d, mm, off, c', hA, hσ, hcap, hce, hlim, rfl⟩ | ⟨a', hn, hce, rfl⟩
        · cases hA
          obtain ⟨hz, hc⟩ := hc
          have hb := bnds len c' l hh c' hl hhi hc.1 hc.2 hcap (.inl ⟨rfl, rfl⟩)
          refine ⟨_, ?_, run _ _ _ _ _ _ rfl hb⟩
          by_cases hcl : c' = l
          · have : hh - l = 0 := by omega
            rw [if_pos hcl, this, show c' - l = 0 by omega]
            refine .one (.one (.base (.slice0 _ _ _ ?_)))
            rcases hce with h9 | h9
            · left; rw [if_pos h9]; have : size < 64 := by rw [← hz]; exact Nat.mod_lt _ (by omega)
              exact Nat.div_eq_of_lt this
            · right; have : size < 64 := by rw [← hz]; exact Nat.mod_lt _ (by omega)
              rw [if_neg (by omega)]; omega
          · rw [if_neg hcl]
            simp only [Option.map_some, add_none]
            refine .one (.one (.base ?_))
            have hsl : size < 64 := by rw [← hz]; exact Nat.mod_lt _ (by omega)
            have := PRel.slice (s := s) b g d mm (o + l * size) (hh - l) (if c / 64 = 0 then size else (c / 64 - 2 * l) * 64 + size) (c' - l) hσ (by omega) (by
              rcases hce with h9 | h9
              · left; rw [if_pos h9]; omega
              · right; rw [if_neg (by omega)]; omega) (by
              have e9 : (if c / 64 = 0 then size else (c / 64 - 2 * l) * 64 + size) % 64 = size := by split <;> omega
              rw [e9]; rw [hz] at hlim
              have : (c' - l) * size + l * size = c' * size := by rw [← Nat.add_mul]; congr 1; omega
              omega)
            rwa [show o + l * size + d = o + d + l * size by omega] at this
        · subst hn
          have h0 : hh = 0 := by omega
          have h1 : l = 0 := by omega
          subst h0; subst h1
          have hb := bnds 0 0 0 0 0 hl hhi (by omega) (by omega) (by omega) (.inl ⟨rfl, rfl⟩)
          refine ⟨_, ?_, run _ _ _ _ _ _ rfl hb⟩
          simp only [if_true, Nat.zero_mul, Nat.add_zero]
          refine .one (.one (.base (.slice0 _ _ _ ?_)))
          have hsl : size < 64 := by rw [← hc.1]; exact Nat.mod_lt _ (by omega)
          rcases hce with h9 | h9
          · left; rw [if_pos h9]; omega
          · right; rw [if_neg (by omega)]; omega
      · simp at h
    · -- a third bound
      rename_i l hh k m hl hhi
      split at h
      · rename_i hc
        simp only [Option.some.injEq] at h; subst h
        cases mx' with
        | none => exact rm.elim
        | some u =>
        obtain rfl := vrel_plain rm rfl
        rcases vrel_slice rx with ⟨b1, g, d, mm, off, c', hA, hσ, hcap, hce, hlim, rfl⟩ | ⟨a', hn, hce, rfl⟩
        · cases hA
          have hb := bnds len c' l hh m.toNat hl hhi hc.2.2.1 (by omega) hcap (.inr ⟨_, _, rfl, by omega, rfl, by omega, by omega, hc.2.1⟩)
          refine ⟨_, ?_, run _ _ _ _ _ _ rfl hb⟩
          by_cases hcl : m.toNat = l
          · have : hh - l = 0 := by omega
            rw [if_pos hcl, this, show m.toNat - l = 0 by omega]
            have hsl : size < 64 := by rw [← hc.1]; exact Nat.mod_lt _ (by omega)
            exact .one (.one (.base (.slice0 _ _ _ (.inr (by omega)))))
          · rw [if_neg hcl]
            simp only [Option.map_some, add_none]
            refine .one (.one (.base ?_))
            have hsl : size < 64 := by rw [← hc.1]; exact Nat.mod_lt _ (by omega)
            have := PRel.slice (s := s) b g d mm (o + l * size) (hh - l) ((2 * (m.toNat - l) + 1) * 64 + size) (m.toNat - l) hσ (by omega) (.inr (by omega)) (by
              rw [show ((2 * (m.toNat - l) + 1) * 64 + size) % 64 = size by omega]
              rw [hc.1] at hlim
              have h8 : (m.toNat - l) * size + l * size = m.toNat * size := by rw [← Nat.add_mul]; congr 1; omega
              have h9 : m.toNat * size ≤ c' * size := Nat.mul_le_mul_right _ (by omega)
              omega)
            rwa [show o + l * size + d = o + d + l * size by omega] at this
        · subst hn
          have h0 : hh = 0 := by omega
          have h1 : l = 0 := by omega
          have h2 : m = 0 := by omega
          subst h0; subst h1; subst h2
          have hb := bnds 0 0 0 0 0 hl hhi (by omega) (by omega) (by omega) (.inr ⟨_, _, rfl, by omega, rfl, by omega, by omega, hc.2.1⟩)
          refine ⟨_, ?_, run _ _ _ _ _ _ rfl hb⟩
          simp only [if_true, Nat.zero_mul, Nat.add_zero]
          have hsl : size < 64 := by rw [← hc.1]; exact Nat.mod_lt _ (by omega)
          exact .one (.one (.base (.slice0 _ _ _ (.inr (by omega)))))
      · simp at h
    · simp at h
  · obtain rfl := vrel_plain rx rfl
    split at h
    · rename_i hl hhi
      simp only [Option.some.injEq] at h; subst h
      cases mx' with
      | some u => exact rm.elim
      | none =>
        have hb := bnds 0 0 0 0 0 hl hhi (by omega) (by omega) (by omega) (.inl ⟨rfl, rfl⟩)
        exact ⟨_, vrel_of_plain rfl, fun w => by rw [run none 0 0 0 0 0 rfl hb w]; rfl⟩
    · rename_i k m hl hhi
      split at h
      · rename_i hc
        simp only [Option.some.injEq] at h; subst h
        cases mx' with
        | none => exact rm.elim
        | some u =>
          obtain rfl := vrel_plain rm rfl
          obtain ⟨hc1, rfl⟩ := hc
          have hb := bnds 0 0 0 0 0 hl hhi (by omega) (by omega) (by omega) (.inr ⟨_, _, rfl, by omega, rfl, by omega, by omega, hc1⟩)
          exact ⟨_, vrel_of_plain rfl, fun w => by rw [run none 0 0 0 0 0 rfl hb w]; rfl⟩
      · simp at h
    · simp at h
  · simp at h
end
end Go.Ab

namespace Go.Ab
open Go

section
variable {P : Program} {s : Sig}

theorem slS_sound {t : TypeId} (ht : P.underlying t = some .string) {x x' v : Value} {lo hi lo' hi' : Option Value}
    (h : slSA x lo hi = some v) (rx : VRel s x x') (rl : RelO s lo lo') (rh : RelO s hi hi') :
    VRel s v v ∧ ∀ w, (Instr.sliceAt t x' lo' hi' none).run P w = .ok v w := by
  have hu := fun w => run_underlying ht w
  unfold slSA at h
  split at h
  · rename_i b
    obtain rfl := vrel_plain rx rfl
    split at h
    · rename_i l hh hl hhi
      split at h
      · rename_i hc
        simp only [Option.some.injEq] at h; subst h
        refine ⟨vrel_string _, fun w => ?_⟩
        have a := optI_rel hl rl
        have c := optI_rel hhi rh
        have hb : (Instr.sliceBounds false b.size b.size lo' hi' none).run P w = .ok (l, hh, b.size) w := by
          rcases c with ⟨rfl, rfl, rfl⟩ | ⟨k2, m2, rfl, rfl, h20, rfl⟩
          · rcases a with ⟨rfl, rfl, rfl⟩ | ⟨k1, m1, rfl, rfl, h10, rfl⟩
            · simp [Instr.sliceBounds]
            · simp [Instr.sliceBounds, run_sliceBound h10 (show m1 ≤ (b.size : Int) by omega)]
          · have e1 := run_sliceBound (P := P) (k := k2) (c := .sliceAlen) h20 (show m2 ≤ (b.size : Int) by omega) w
            rcases a with ⟨rfl, rfl, rfl⟩ | ⟨k1, m1, rfl, rfl, h10, rfl⟩
            · simp [Instr.sliceBounds, e1]
            · simp [Instr.sliceBounds, e1, run_sliceBound h10 (show m1 ≤ (m2.toNat : Int) by omega)]
        simp [Instr.sliceAt, Instr.slice, hu, hb]
      · simp at h
    · simp at h
  · simp at h

/-- A part of an aggregate. -/
theorem part_sound {t : TypeId} {n : Option Nat} (hn : aggT P t = some n) {cs ys : Array Value} {off : Nat} {v : Value} (h : partA n cs off = some v) (r : All2 (LRel s) cs.toList ys.toList) :
    ∃ v', VRel s v v' ∧ ∀ w, (part t ys off).run P w = .ok v' w := by
  unfold partA at h
  split at h
  · rename_i k
    simp only [Option.some.injEq] at h; subst h
    refine ⟨.agg (ys.extract off (off + k)), ?_, fun w => ?_⟩
    · have h2 : All2 (LRel s) (cs.extract off (off + k)).toList (ys.extract off (off + k)).toList := by
        simp only [Array.toList_extract]
        simp only [List.extract_eq_take_drop]
        exact (r.drop off).take _
      have := ARel.agg (s := s) _ _ h2
      rw [Array.toArray_toList, Array.toArray_toList] at this
      exact VRel.one this
    · obtain ⟨h1, h2⟩ := run_isAgg hn w
      have h3 := run_sizeOf (P := P) (h2 k rfl) w
      simp [part, h1, h3]
  · have h' : cs.toList[off]? = some v := by simpa using h
    obtain ⟨v', hv', r'⟩ := r.get h'
    refine ⟨v', vrel_one r', fun w => ?_⟩
    obtain ⟨h1, _⟩ := run_isAgg hn w
    have : ys[off]? = some v' := by simpa using hv'
    simp [part, h1, this]

theorem setAll_get (off : Nat) : ∀ (vs : List Value) (k : Nat) (arr : Array Value), off + k + vs.length ≤ arr.size → ∀ i,
    ((vs.zipIdx k).foldl (fun (cs : Array Value) (p : Value × Nat) => cs.setIfInBounds (off + p.2) p.1) arr)[i]? = if off + k ≤ i ∧ i < off + k + vs.length then vs[i - (off + k)]? else arr[i]? := by
  intro vs
  induction vs with
  | nil => intro k arr h i; simp; intro h1 h2; omega
  | cons v vs ih =>
    intro k arr h i
    simp only [List.length_cons] at h
    simp only [List.zipIdx_cons, List.foldl_cons]
    rw [ih (k + 1) _ (by simp; omega) i]
    simp only [List.length_cons]
    by_cases h1 : off + (k + 1) ≤ i ∧ i < off + (k + 1) + vs.length
    · rw [if_pos h1, if_pos (by omega)]
      rw [show i - (off + k) = (i - (off + (k + 1))) + 1 by omega]; simp
    · rw [if_neg h1]
      by_cases h2 : i = off + k
      · subst h2
        rw [if_pos (by omega)]
        simp [Array.getElem?_setIfInBounds]; omega
      · rw [if_neg (by omega)]
        rw [Array.getElem?_setIfInBounds, if_neg (by omega)]
theorem putCells_get (cs : List Value) (off : Nat) (vs : List Value) (h : off + vs.length ≤ cs.length) (i : Nat) :
    (putCells cs off vs)[i]? = if off ≤ i ∧ i < off + vs.length then vs[i - off]? else cs[i]? := by
  unfold putCells
  by_cases h1 : i < off
  · rw [if_neg (by omega), List.append_assoc, List.getElem?_append_left (by simp; omega)]
    simp [List.getElem?_take, h1]
  · by_cases h2 : i < off + vs.length
    · rw [if_pos (by omega), List.append_assoc, List.getElem?_append_right (by simp; omega)]
      rw [List.getElem?_append_left (by simp; omega)]
      congr 1; simp; omega
    · rw [if_neg (by omega), List.getElem?_append_right (by simp; omega)]
      simp only [List.length_append, List.length_take, List.getElem?_drop]
      congr 1; omega
theorem putCells_length (cs : List Value) (off : Nat) (vs : List Value) (h : off + vs.length ≤ cs.length) : (putCells cs off vs).length = cs.length := by
  unfold putCells; simp; omega
theorem setAll_eq (v : Value) (off : Nat) (arr : Array Value) (h : off + (cellsV v).length ≤ arr.size) :
    (v.cells.zipIdx.foldl (fun (cs : Array Value) (p : Value × Nat) => cs.setIfInBounds (off + p.2) p.1) arr).toList = putCells arr.toList off (cellsV v) := by
  apply List.ext_getElem?
  intro i
  rw [putCells_get _ _ _ (by simpa using h)]
  have := setAll_get off (cellsV v) 0 arr (by simpa using h) i
  simp only [Nat.add_zero] at this
  rw [← Array.foldl_toList, Array.toList_zipIdx]
  rw [show v.cells.toList = cellsV v from rfl]
  simpa using this
/-- The parts of an aggregate, laid into its zero value: related values give related cells. -/
theorem fill_sound (place : Nat → Option (Nat × Nat)) {ρ ρ' : Operand → Value} : ∀ (ps : List (Nat × Operand)) (qs : List (Nat × Nat × Operand)) (cs cs' : List Value),
    ps.length = qs.length → (∀ (i : Nat) (p : Nat × Operand) (q : Nat × Nat × Operand), ps[i]? = some p → qs[i]? = some q → place p.1 = some (q.1, q.2.1) ∧ p.2 = q.2.2 ∧ VRel s (ρ p.2) (ρ' p.2)) →
    All2 (LRel s) cs cs' → ∀ out, fillA ρ qs cs = some out →
    ∃ out', All2 (LRel s) out out' ∧ Instr.fill place cs'.toArray (ps.map fun p => (p.1, ρ' p.2)) = some out'.toArray := by
  intro ps
  induction ps with
  | nil =>
    intro qs cs cs' hl _ hr out ho
    cases qs with
    | nil => simp [fillA] at ho; subst ho; exact ⟨cs', hr, by simp [Instr.fill]⟩
    | cons => simp at hl
  | cons p ps ih =>
    intro qs cs cs' hl hp hr out ho
    cases qs with
    | nil => simp at hl
    | cons q qs =>
      obtain ⟨h1, h2, h3⟩ := hp 0 p q rfl rfl
      obtain ⟨p1, p2⟩ := p
      obtain ⟨q1, q2, q3⟩ := q
      simp only at h1 h2 h3
      subst h2
      simp only [fillA] at ho
      split at ho
      · rename_i hfit
        obtain ⟨ht, hfit⟩ := hfit
        obtain ⟨hc, _⟩ := vrel_cells h3 ht
        have hr2 : All2 (LRel s) (putCells cs q1 (cellsV (ρ p2))) (putCells cs' q1 (cellsV (ρ' p2))) := by
          unfold putCells
          rw [← hc.1]
          exact ((hr.take _).append hc).append (hr.drop _)
        obtain ⟨out', ho', hf⟩ := ih qs _ _ (by simpa using hl) (fun i p q h4 h5 => hp (i + 1) p q (by simpa using h4) (by simpa using h5)) hr2 out ho
        refine ⟨out', ho', ?_⟩
        rw [← hf]
        have hs : (ρ' p2).cells.size = q2 := by have := hfit.1; rw [hc.1] at this; simpa [cellsV] using this
        simp only [List.map_cons, Instr.fill, h1]
        rw [if_neg (by simp only [Bool.or_eq_true, decide_eq_true_eq, not_or, Decidable.not_not, Nat.not_lt, ne_eq]; simp [hs, ← hr.1]; omega)]
        congr 1
        have hle : q1 + (cellsV (ρ' p2)).length ≤ cs'.toArray.size := by rw [← hc.1]; simp [← hr.1]; omega
        have := setAll_eq (ρ' p2) q1 cs'.toArray hle
        apply Array.ext'
        simpa using this
      · simp at ho

theorem mxA_sound {xs xs' : List Value} {v : Value} (h : mxA xs = some v) (r : All2 (VRel s) xs xs') (a : Array TypeId) (t : TypeId) :
    ∃ v', VRel s v v' ∧ ∀ w, (Builtin.max_ a t xs'.toArray).run P w = .ok v' w := by
  cases xs with
  | nil => simp [mxA] at h
  | cons x xs =>
    match xs', r with
    | [], r => simp [All2] at r
    | x' :: xs', r =>
      have r0 := r.2 0 x x' rfl rfl
      have r1 : All2 (VRel s) xs xs' := by simpa using r.drop 1
      clear r
      have key : ∀ (xs xs' : List Value) (x x' v : Value), xs.foldlM mx2 x = some v → VRel s x x' → All2 (VRel s) xs xs' → ∃ v', VRel s v v' ∧ ∀ w, (xs'.foldlM Builtin.max2 x').run P w = .ok v' w := by
        intro xs
        induction xs with
        | nil =>
          intro xs' x x' v h r0 r1
          have : xs' = [] := List.eq_nil_of_length_eq_zero r1.1.symm
          subst this
          simp at h; subst h
          exact ⟨x', r0, fun w => rfl⟩
        | cons y ys ih =>
          intro xs' x x' v h r0 r1
          match xs', r1 with
          | [], r1 => simp [All2] at r1
          | y' :: ys', r1 =>
            have ry := r1.2 0 y y' rfl rfl
            have rys : All2 (VRel s) ys ys' := by simpa using r1.drop 1
            simp only [List.foldlM_cons, Option.bind_eq_bind, Option.bind_eq_some_iff] at h
            obtain ⟨z, hz, h⟩ := h
            unfold mx2 at hz
            split at hz
            · obtain rfl := vrel_plain r0 rfl
              obtain rfl := vrel_plain ry rfl
              simp only [Option.some.injEq] at hz; subst hz
              obtain ⟨v', hv, hr⟩ := ih ys' _ _ v h (vrel_int _ _) rys
              exact ⟨v', hv, fun w => by simp [List.foldlM_cons, Builtin.max2, hr]⟩
            · simp at hz
      obtain ⟨v', hv, hr⟩ := key xs xs' x x' v (by simpa [mxA] using h) r0 r1
      exact ⟨v', hv, fun w => by simpa [Builtin.max_] using hr w⟩
theorem mnA_sound {xs xs' : List Value} {v : Value} (h : mnA xs = some v) (r : All2 (VRel s) xs xs') (a : Array TypeId) (t : TypeId) :
    ∃ v', VRel s v v' ∧ ∀ w, (Builtin.min_ a t xs'.toArray).run P w = .ok v' w := by
  cases xs with
  | nil => simp [mnA] at h
  | cons x xs =>
    match xs', r with
    | [], r => simp [All2] at r
    | x' :: xs', r =>
      have r0 := r.2 0 x x' rfl rfl
      have r1 : All2 (VRel s) xs xs' := by simpa using r.drop 1
      clear r
      have key : ∀ (xs xs' : List Value) (x x' v : Value), xs.foldlM mn2 x = some v → VRel s x x' → All2 (VRel s) xs xs' → ∃ v', VRel s v v' ∧ ∀ w, (xs'.foldlM Builtin.min2 x').run P w = .ok v' w := by
        intro xs
        induction xs with
        | nil =>
          intro xs' x x' v h r0 r1
          have : xs' = [] := List.eq_nil_of_length_eq_zero r1.1.symm
          subst this
          simp at h; subst h
          exact ⟨x', r0, fun w => rfl⟩
        | cons y ys ih =>
          intro xs' x x' v h r0 r1
          match xs', r1 with
          | [], r1 => simp [All2] at r1
          | y' :: ys', r1 =>
            have ry := r1.2 0 y y' rfl rfl
            have rys : All2 (VRel s) ys ys' := by simpa using r1.drop 1
            simp only [List.foldlM_cons, Option.bind_eq_bind, Option.bind_eq_some_iff] at h
            obtain ⟨z, hz, h⟩ := h
            unfold mn2 at hz
            split at hz
            · obtain rfl := vrel_plain r0 rfl
              obtain rfl := vrel_plain ry rfl
              simp only [Option.some.injEq] at hz; subst hz
              obtain ⟨v', hv, hr⟩ := ih ys' _ _ v h (vrel_int _ _) rys
              exact ⟨v', hv, fun w => by simp [List.foldlM_cons, Builtin.min2, hr]⟩
            · simp at hz
      obtain ⟨v', hv, hr⟩ := key xs xs' x x' v (by simpa [mnA] using h) r0 r1
      exact ⟨v', hv, fun w => by simpa [Builtin.min_] using hr w⟩
end
end Go.Ab

namespace Go.Ab
open Go

section
variable {P : Program} {s : Sig}

/-- The two readings of operands: related at each operand of an operation. -/
def RelX (nG : Nat) (s : Sig) (ρ ρ' : Operand → Value) (op : Op) : Prop := (∀ x ∈ op.operands, okX nG x = true → VRel s (ρ x) (ρ' x)) ∧ ((∀ v, ρ (.const v) = v) ∧ ∀ f, ρ' (.func f) = .func (.func f) #[] #[]) ∧ (∀ v, ρ' (.const v) = v)

theorem all_ops {nG : Nat} {op : Op} {ρ ρ' : Operand → Value} (h : op.operands.all (okX nG) = true) (hr : RelX nG s ρ ρ' op) : ∀ x ∈ op.operands, VRel s (ρ x) (ρ' x) := by
  intro x hx
  refine hr.1 x hx ?_
  obtain ⟨i, hi, rfl⟩ := Array.mem_iff_getElem.1 hx
  exact (Array.all_eq_true.1 h) i hi

theorem relO_map {ρ ρ' : Operand → Value} (o : Option Operand) (h : ∀ x, o = some x → VRel s (ρ x) (ρ' x)) : RelO s (o.map ρ) (o.map ρ') := by
  cases o with
  | none => trivial
  | some x => exact h x rfl

theorem zeroT_some {t : TypeId} {z : List Value} (h : zeroT P t = some z) : ∃ it zv, P.info? t = some it ∧ it.zero = some zv ∧ zv.cells.toList = z ∧ zv.cells.toList.all plainL = true := by
  unfold zeroT at h
  simp only [Option.bind_eq_some_iff] at h
  obtain ⟨it, hit, zv, hzv, h⟩ := h
  split at h
  · rename_i hp
    simp only [Option.some.injEq] at h
    exact ⟨it, zv, hit, hzv, h, hp⟩
  · simp at h
theorem prel_of_vrel {v u : Value} (r : VRel s v u) (h : isP v = true) : PRel s v u := by
  cases r with
  | one r => cases r with
    | one r => cases r with
      | base r => exact r
      | func fn xs ys zs us h1 h2 =>
        simp only [isP, Bool.and_eq_true, List.isEmpty_toArray, List.isEmpty_iff] at h
        obtain ⟨rfl, rfl⟩ := h
        have e1 : zs = [] := List.eq_nil_of_length_eq_zero h1.1.symm
        have e2 : us = [] := List.eq_nil_of_length_eq_zero h2.1.symm
        subst e1; subst e2
        exact .plain _ rfl
    | agg => simp [isP] at h
  | tup => simp [isP] at h

theorem exec_bin {ρ' : Operand → Value} {dst op t x y yt type pos after guard} {v : Value} {w : World}
    (h : (do eqGuard op t x y (ρ' x) (ρ' y); binOp op t (ρ' x) (ρ' y) : Sem Value).run P w = .ok v w) :
    (execOp ρ' { dst := dst, op := .binOp op t x y yt, type := type, pos := pos, after := after, guard := guard }).run P w = .ok (Next.value v) w := by
  show ((do eqGuard op t x y (ρ' x) (ρ' y); binOp op t (ρ' x) (ρ' y) : Sem Value) >>= fun a => pure (Next.value a)).run P w = _
  rw [Sem.run_bind, h]; rfl

set_option maxHeartbeats 4000000 in
theorem pure_sound {ρ ρ' : Operand → Value} {o : Oper} (hr : RelX P.globals.size s ρ ρ' o.op) {ao : AOp} {v : Value} (hf : flatOp P o.op o.type = some ao) (hp : pureA P ao ρ = some v) :
    ∃ v', VRel s v v' ∧ ∀ w, (execOp ρ' o).run P w = .ok (.value v') w := by
  obtain ⟨dst, op, type, pos, after, guard⟩ := o
  simp only at hf
  unfold flatOp at hf
  by_cases hall : op.operands.all (okX P.globals.size) = true
  case neg => rw [if_neg hall] at hf; simp at hf
  rw [if_pos hall] at hf
  have hops := all_ops hall hr
  clear hall
  cases op with
  | move x =>
    simp only [Option.some.injEq] at hf; subst hf
    simp only [pureA, Option.some.injEq] at hp; subst hp
    exact ⟨_, hops x (by simp [Op.operands]), fun w => rfl⟩
  | assign x =>
    simp only [Option.some.injEq] at hf; subst hf
    simp only [pureA, Option.some.injEq] at hp; subst hp
    exact ⟨_, hops x (by simp [Op.operands]), fun w => rfl⟩
  | pick c a b =>
    simp only [Option.some.injEq] at hf; subst hf
    simp only [pureA, pickA] at hp
    have hc := hops c (by simp [Op.operands])
    split at hp
    · rename_i t ht
      rw [ht] at hc
      have := vrel_plain hc rfl
      simp only [Option.some.injEq] at hp; subst hp
      refine ⟨if t = true then ρ' a else ρ' b, ?_, fun w => by simp [execOp, this, asBool]⟩
      cases t
      · exact hops b (by simp [Op.operands])
      · exact hops a (by simp [Op.operands])
    · simp at hp
  | binOp op t x y yt =>
    have hx := hops x (by simp [Op.operands])
    have hy := hops y (by simp [Op.operands])
    simp only at hf
    split at hf
    · rename_i hop
      have hop' : op = .eql ∨ op = .neq := by
        simp only [Bool.or_eq_true, beq_iff_eq] at hop; exact hop
      split at hf
      · rename_i d hd
        split at hf
        · rename_i hn
          simp only [Option.some.injEq] at hf; subst hf
          simp only [pureA, Option.map_eq_some_iff] at hp
          obtain ⟨b, hb, rfl⟩ := hp
          refine ⟨_, vrel_bool _, fun w => ?_⟩
          exact exec_bin (nil_sound hd hn (nilA_rel hb hx) ρ' hr.2.2 x w op hop').1
        · split at hf
          · rename_i hn
            simp only [Option.some.injEq] at hf; subst hf
            simp only [pureA, Option.map_eq_some_iff] at hp
            obtain ⟨b, hb, rfl⟩ := hp
            refine ⟨_, vrel_bool _, fun w => ?_⟩
            exact exec_bin (nil_sound hd hn (nilA_rel hb hy) ρ' hr.2.2 y w op hop').2
          · have hbin : ∀ v, binA op (ρ x) (ρ y) = some v → ∃ v', VRel s v v' ∧ ∀ w, (execOp ρ' { dst, op := .binOp op t x y yt, type, pos, after, guard }).run P w = .ok (.value v') w := by
              intro v hv
              obtain ⟨h1, h2⟩ := bin_sound (P := P) hv hx hy t x y
              exact ⟨v, vrel_of_plain h1, fun w => exec_bin (h2 w)⟩
            split at hf
            · rename_i hd'
              simp only [Option.some.injEq] at hf; subst hf
              simp only [pureA, eqBA] at hp
              split at hp
              · rename_i a b ha hb
                simp only [Option.some.injEq] at hp; subst hp
                rw [ha] at hx; rw [hb] at hy
                have e1 := vrel_plain hx rfl
                have e2 := vrel_plain hy rfl
                refine ⟨_, vrel_bool _, fun w => ?_⟩
                exact exec_bin (by rw [e1, e2]; exact eqB_run (P := P) hd a b op hop' x y w)
              · simp at hp
            · simp only [Option.some.injEq] at hf; subst hf; exact hbin v (by simpa [pureA] using hp)
            · simp only [Option.some.injEq] at hf; subst hf; exact hbin v (by simpa [pureA] using hp)
            · simp only [Option.some.injEq] at hf; subst hf; exact hbin v (by simpa [pureA] using hp)
            · simp only [Option.some.injEq] at hf; subst hf; exact hbin v (by simpa [pureA] using hp)
            · simp only [Option.some.injEq] at hf; subst hf
              simp only [pureA, eqGA] at hp
              split at hp
              · rename_i hpl
                simp only [Bool.and_eq_true] at hpl
                have e1 := vrel_plain hx hpl.1
                have e2 := vrel_plain hy hpl.2
                unfold plainO at hp
                split at hp
                · rename_i u hu
                  split at hp
                  · rename_i hv
                    simp only [Option.some.injEq] at hp; subst hp
                    exact ⟨u, vrel_of_plain hv, fun w => exec_bin (by rw [e1, e2]; exact runP_run hu w)⟩
                  · simp at hp
                · simp at hp
              · simp at hp
            · simp only [Option.some.injEq] at hf; subst hf
              simp only [pureA, eqGA] at hp
              split at hp
              · rename_i hpl
                simp only [Bool.and_eq_true] at hpl
                have e1 := vrel_plain hx hpl.1
                have e2 := vrel_plain hy hpl.2
                unfold plainO at hp
                split at hp
                · rename_i u hu
                  split at hp
                  · rename_i hv
                    simp only [Option.some.injEq] at hp; subst hp
                    exact ⟨u, vrel_of_plain hv, fun w => exec_bin (by rw [e1, e2]; exact runP_run hu w)⟩
                  · simp at hp
                · simp at hp
              · simp at hp
            · simp at hf
      · simp at hf
    · simp only [Option.some.injEq] at hf; subst hf
      obtain ⟨h1, h2⟩ := bin_sound (P := P) (show binA op (ρ x) (ρ y) = some v by simpa [pureA] using hp) hx hy t x y
      exact ⟨v, vrel_of_plain h1, fun w => exec_bin (h2 w)⟩
  | unOp op t x =>
    simp only [Option.some.injEq] at hf; subst hf
    have hx := hops x (by simp [Op.operands])
    simp only [pureA, unA] at hp
    split at hp
    · rename_i k n hk
      rw [hk] at hx
      have e := vrel_plain hx rfl
      simp only [Option.some.injEq] at hp; subst hp
      exact ⟨_, vrel_int _ _, fun w => by simp [execOp, e, Op.unary, Op.intArith]⟩
    · rename_i b hk
      rw [hk] at hx
      have e := vrel_plain hx rfl
      simp only [Option.some.injEq] at hp; subst hp
      exact ⟨_, vrel_bool _, fun w => by simp [execOp, e, Op.unary]⟩
    · rename_i k n hk
      rw [hk] at hx
      have e := vrel_plain hx rfl
      simp only [intA, Option.some.injEq] at hp; subst hp
      exact ⟨_, vrel_int _ _, fun w => by simp [execOp, e, Op.unary, Op.intBits]⟩
    · simp at hp
  | convert a b x =>
    have hx := hops x (by simp [Op.operands])
    simp only at hf
    split at hf
    · rename_i k1 k h1 h2
      simp only [Option.some.injEq] at hf; subst hf
      simp only [pureA, cvIA] at hp
      split at hp
      · rename_i k0 n hk
        rw [hk] at hx
        have e := vrel_plain hx rfl
        simp only [Option.some.injEq] at hp; subst hp
        exact ⟨_, vrel_int _ _, fun w => by simp [execOp, e, convert, run_underlying h1, run_underlying h2, Conv.intToInt]⟩
      · simp at hp
    · rename_i k1 k h1 h2
      simp only [Option.some.injEq] at hf; subst hf
      simp only [pureA, cvFA] at hp
      split at hp
      · rename_i k0 n hk
        rw [hk] at hx
        have e := vrel_plain hx rfl
        simp only [Option.some.injEq] at hp; subst hp
        exact ⟨_, vrel_of_plain rfl, fun w => by simp [execOp, e, convert, run_underlying h1, run_underlying h2, Conv.intToFloat]⟩
      · simp at hp
    · simp at hf
  | nilCheck x =>
    simp only [Option.some.injEq] at hf; subst hf
    have hx := hops x (by simp [Op.operands])
    simp only [pureA, nilcA] at hp
    split at hp
    · rename_i a hk
      rw [hk] at hx
      obtain ⟨a1, a2, a3⟩ := a
      obtain ⟨g, d, m, h1, rfl, e⟩ := vrel_ptr hx
      simp only [Option.some.injEq] at hp; subst hp
      exact ⟨_, e ▸ hx, fun w => by simp [execOp, e]⟩
    · rename_i f xs ys hk
      rw [hk] at hx
      obtain ⟨zs, us, e, _⟩ := vrel_func hx
      simp only [Option.some.injEq] at hp; subst hp
      exact ⟨_, e ▸ hx, fun w => by simp [execOp, e]⟩
    · simp at hp
  | fieldAddr t x f =>
    have hx := hops x (by simp [Op.operands])
    simp only at hf
    split at hf
    · rename_i fs hd
      simp only [Option.bind_eq_some_iff] at hf
      obtain ⟨fl, hfl, n, hn, hf⟩ := hf
      split at hf
      · simp at hf
      · rename_i hn0
        simp only [Option.some.injEq] at hf; subst hf
        simp only [pureA, faA] at hp
        split at hp
        · rename_i b off hk
          rw [hk] at hx
          obtain ⟨g, d, m, h1, _, e⟩ := vrel_ptr hx
          simp only [Option.some.injEq] at hp; subst hp
          refine ⟨.pointer (some ⟨g, off + d + fl.offset, none⟩), ?_, fun w => ?_⟩
          · have := PRel.ptr (s := s) b g d m (off + fl.offset) h1
            rw [show off + fl.offset + d = off + d + fl.offset by omega] at this
            exact .one (.one (.base this))
          · have h5 := run_sizeOf (P := P) hn w
            simp [execOp, e, Instr.fieldAt, run_underlying hd, hfl, Instr.sureAddr, fieldPlace, h5, hn0, add_none]
        · simp at hp
    · simp at hf
  | indexAddr t x i =>
    have hx := hops x (by simp [Op.operands])
    have hi := hops i (by simp [Op.operands])
    simp only at hf
    split at hf
    · rename_i e hd
      simp only [Option.map_eq_some_iff] at hf
      obtain ⟨n, hn, rfl⟩ := hf
      simp only [pureA, iaS] at hp
      split at hp
      · rename_i b off len c k j hk hj
        rw [hk] at hx; rw [hj] at hi
        have ej := vrel_plain hi rfl
        split at hp
        · rename_i hb
          simp only [Option.some.injEq] at hp; subst hp
          rcases vrel_slice hx with ⟨b1, g, d, m, off1, c', hA, hσ, hcap, hce, _, ex⟩ | ⟨a', hn0, _, _⟩
          · cases hA
            refine ⟨.pointer (some ⟨g, off + d + j.toNat * n, none⟩), ?_, fun w => ?_⟩
            · have := PRel.ptr (s := s) b g d m (off + j.toNat * n) hσ
              rw [show off + j.toNat * n + d = off + d + j.toNat * n by omega] at this
              exact .one (.one (.base this))
            · have h5 := run_sizeOf (P := P) hn w
              simp [execOp, ex, ej, Instr.indexAt, asIntOf, run_underlying hd, hb, h5, add_none]
          · omega
        · simp at hp
      · simp at hp
    · rename_i len e hd
      simp only [Option.map_eq_some_iff] at hf
      obtain ⟨n, hn, rfl⟩ := hf
      simp only [pureA, iaP] at hp
      split at hp
      · rename_i b off k j hk hj
        rw [hk] at hx; rw [hj] at hi
        have ej := vrel_plain hi rfl
        split at hp
        · rename_i hb
          simp only [Option.some.injEq] at hp; subst hp
          obtain ⟨g, d, m, h1, _, ex⟩ := vrel_ptr hx
          refine ⟨.pointer (some ⟨g, off + d + j.toNat * n, none⟩), ?_, fun w => ?_⟩
          · have := PRel.ptr (s := s) b g d m (off + j.toNat * n) h1
            rw [show off + j.toNat * n + d = off + d + j.toNat * n by omega] at this
            exact .one (.one (.base this))
          · have h5 := run_sizeOf (P := P) hn w
            simp [execOp, ex, ej, Instr.indexAt, asIntOf, run_underlying hd, hb, h5, add_none, Instr.sureAddr]
        · simp at hp
      · simp at hp
    · simp at hf
  | slice t x lo hi mx =>
    have hx := hops x (by simp [Op.operands])
    have h1 := relO_map (s := s) lo fun y e => hops y (by simp [Op.operands, e])
    have h2 := relO_map (s := s) hi fun y e => hops y (by simp [Op.operands, e])
    have h3 := relO_map (s := s) mx fun y e => hops y (by simp [Op.operands, e])
    simp only at hf
    split at hf
    · rename_i e hd
      simp only [Option.map_eq_some_iff] at hf
      obtain ⟨n, hn, rfl⟩ := hf
      obtain ⟨v', r, hrun⟩ := sl_sound hd hn (by simpa [pureA] using hp) hx h1 h2 h3
      exact ⟨v', r, fun w => by simp [execOp, hrun]⟩
    · rename_i hd
      split at hf
      · simp at hf
      · rename_i hm
        simp only [Option.some.injEq] at hf; subst hf
        obtain rfl : mx = none := by cases mx <;> simp_all
        obtain ⟨r, hrun⟩ := slS_sound hd (by simpa [pureA] using hp) hx h1 h2
        exact ⟨v, r, fun w => by simp [execOp, hrun]⟩
    · simp at hf
  | field t x f =>
    have hx := hops x (by simp [Op.operands])
    simp only at hf
    split at hf
    · rename_i fs hd
      simp only [Option.bind_eq_some_iff, Option.map_eq_some_iff] at hf
      obtain ⟨fl, hfl, n, hn, rfl⟩ := hf
      simp only [pureA, fldA] at hp
      split at hp
      · rename_i cs hk
        rw [hk] at hx
        obtain ⟨ys, e, r⟩ := vrel_agg hx
        obtain ⟨v', r', hrun⟩ := part_sound hn hp r
        exact ⟨v', r', fun w => by simp [execOp, e, Instr.field, run_underlying hd, hfl, asAgg, hrun]⟩
      · simp at hp
    · simp at hf
  | index t x i =>
    have hx := hops x (by simp [Op.operands])
    have hi := hops i (by simp [Op.operands])
    simp only at hf
    split at hf
    · rename_i hd
      simp only [Option.some.injEq] at hf; subst hf
      simp only [pureA, ixSA] at hp
      split at hp
      · rename_i b k n hk hn
        rw [hk] at hx; rw [hn] at hi
        have ex := vrel_plain hx rfl
        have ei := vrel_plain hi rfl
        split at hp
        · rename_i h0
          simp only [Option.map_eq_some_iff] at hp
          obtain ⟨c, hc, rfl⟩ := hp
          exact ⟨_, vrel_int _ _, fun w => by simp [execOp, ex, ei, Instr.index, asIntOf, run_underlying hd, h0, hc]⟩
        · simp at hp
      · simp at hp
    · rename_i len e hd
      simp only [Option.bind_eq_some_iff, Option.map_eq_some_iff] at hf
      obtain ⟨n, hn, z, hz, rfl⟩ := hf
      simp only [pureA, ixAA] at hp
      split at hp
      · rename_i cs k j hk hj
        rw [hk] at hx; rw [hj] at hi
        have ei := vrel_plain hi rfl
        obtain ⟨ys, ex, r⟩ := vrel_agg hx
        split at hp
        · rename_i hb
          obtain ⟨v', r', hrun⟩ := part_sound hn hp r
          exact ⟨v', r', fun w => by have h5 := run_sizeOf (P := P) hz w; simp [execOp, ex, ei, Instr.index, asIntOf, run_underlying hd, hb, h5, hrun]⟩
        · simp at hp
      · simp at hp
    · simp at hf
  | extract x i =>
    simp only [Option.some.injEq] at hf; subst hf
    have hx := hops x (by simp [Op.operands])
    simp only [pureA, extA] at hp
    split at hp
    · rename_i vs hk
      rw [hk] at hx
      obtain ⟨ys, e, r⟩ := vrel_tup hx
      obtain ⟨v', hv', r'⟩ := r.get (show vs.toList[i]? = some v by simpa using hp)
      have : ys[i]? = some v' := by simpa using hv'
      exact ⟨v', .one r', fun w => by simp [execOp, e, Instr.extract, this]⟩
    · simp at hp
  | makeFunc fn xs ys =>
    cases fn with
    | func f =>
      simp only [Option.some.injEq] at hf; subst hf
      simp only [pureA] at hp
      split at hp
      · rename_i hpl
        simp only [Bool.and_eq_true] at hpl
        simp only [Option.some.injEq] at hp; subst hp
        have h1 : All2 (PRel s) (xs.toList.map ρ) (xs.toList.map ρ') := All2.of_fun _ fun x hx => prel_of_vrel (hops x (by simp [Op.operands]; exact .inl (by simpa using hx))) (List.all_eq_true.1 hpl.1 _ (List.mem_map_of_mem hx))
        have h2 : All2 (PRel s) (ys.toList.map ρ) (ys.toList.map ρ') := All2.of_fun _ fun x hx => prel_of_vrel (hops x (by simp [Op.operands]; exact .inr (by simpa using hx))) (List.all_eq_true.1 hpl.2 _ (List.mem_map_of_mem hx))
        refine ⟨_, .one (.one (.func (.func f) _ _ _ _ h1 h2)), fun w => ?_⟩
        simp only [execOp, Instr.makeFunc, Sem.run_bind, Sem.run_pure, Result.andThen_ok]
        congr 3 <;> (apply Array.ext'; simp)
      · simp at hp
    | _ => simp at hf
  | makeInterface t x =>
    have hx := hops x (by simp [Op.operands])
    simp only at hf
    split at hf
    · simp at hf
    · rename_i d hni hd
      simp only [Option.some.injEq] at hf; subst hf
      simp only [pureA, mkiA] at hp
      split at hp
      · rename_i hpl
        simp only [Option.some.injEq] at hp; subst hp
        have e : ρ' x = ρ x := by
          refine vrel_plain hx ?_
          generalize ρ x = u at hpl
          cases u <;> simp_all [plainA, plainL, plainV]
        refine ⟨_, .one (.one (.base (.iface t _ hpl))), fun w => ?_⟩
        have hrun : (Instr.makeInterface t (ρ x)).run P w = .ok (.iface t (ρ x)) w := by
          simp only [Instr.makeInterface, Sem.run_bind, run_underlying hd, Result.andThen_ok]
          cases d <;> first | rfl | exact absurd hd (hni _)
        simp [execOp, e, hrun]
      · simp at hp
    · simp at hf
  | build t ps =>
    have hvals : ∀ (p : Nat × Operand), p ∈ ps.toList → VRel s (ρ p.2) (ρ' p.2) := fun p hp => hops p.2 (by simp only [Op.operands]; exact List.mem_toArray.2 (List.mem_map_of_mem hp))
    have build_run : ∀ cells : Array Value, P.built t (ps.toList.map fun p => (p.1, ρ' p.2)) = some cells →
        ∀ w, (execOp ρ' { dst, op := .build t ps, type, pos, after, guard }).run P w = .ok (.value (.agg cells)) w := by
      intro cells h w
      have := run_build (P := P) w t (ps.map fun p => (p.1, ρ' p.2)) cells (by simpa using h)
      simp [execOp, this]
    simp only at hf
    split at hf
    · rename_i fs hd
      simp only [Option.bind_eq_some_iff, Option.map_eq_some_iff] at hf
      obtain ⟨places, hpl, z, hz, qs, hqs, rfl⟩ := hf
      simp only [pureA, Option.map_eq_some_iff] at hp
      obtain ⟨cs, hcs, rfl⟩ := hp
      obtain ⟨it, zv, hit, hzv, rfl, hzp⟩ := zeroT_some hz
      obtain ⟨out, ho, hfill⟩ := fill_sound (s := s) (fun i => places[i]?) (ρ := ρ) (ρ' := ρ') ps.toList qs zv.cells.toList zv.cells.toList (Lib.mapM_length hqs).symm
        (fun i p q h1 h2 => by
          obtain ⟨q', h3, h4⟩ := Lib.mapM_at hqs i p h1
          rw [h2] at h3
          obtain rfl := Option.some.inj h3
          simp only [Option.map_eq_some_iff] at h4
          obtain ⟨pl, h5, rfl⟩ := h4
          exact ⟨h5, rfl, hvals p (List.mem_of_getElem? h1)⟩)
        (all2_of_plain hzp) cs hcs
      refine ⟨.agg out.toArray, .one (.agg _ _ ho), build_run _ ?_⟩
      simp only [Program.built, hit, hd, hzv, hpl]
      simpa using hfill
    · rename_i len e hd
      simp only [Option.bind_eq_some_iff, Option.map_eq_some_iff] at hf
      obtain ⟨z, hz, n, hn, rfl⟩ := hf
      simp only [pureA, Option.map_eq_some_iff] at hp
      obtain ⟨cs, hcs, rfl⟩ := hp
      obtain ⟨it, zv, hit, hzv, rfl, hzp⟩ := zeroT_some hz
      unfold sizeT at hn
      simp only [Option.map_eq_some_iff] at hn
      obtain ⟨ie, hie, rfl⟩ := hn
      obtain ⟨out, ho, hfill⟩ := fill_sound (s := s) (fun i => some (i * ie.size, ie.size)) (ρ := ρ) (ρ' := ρ') ps.toList (ps.toList.map fun p => (p.1 * ie.size, ie.size, p.2)) zv.cells.toList zv.cells.toList (by simp)
        (fun i p q h1 h2 => by
          simp only [List.getElem?_map, h1, Option.map_some, Option.some.injEq] at h2
          subst h2
          exact ⟨rfl, rfl, hvals p (List.mem_of_getElem? h1)⟩)
        (all2_of_plain hzp) cs hcs
      refine ⟨.agg out.toArray, .one (.agg _ _ ho), build_run _ ?_⟩
      simp only [Program.built, hit, hd, hzv, hie]
      simpa using hfill
    · simp at hf
  | call c =>
    obtain ⟨callee, args, argTypes⟩ := c
    cases callee with
    | value f =>
      cases f with
      | func f =>
        simp only at hf
        split at hf
        · simp only [Option.some.injEq] at hf; subst hf
          simp only [pureA, natA] at hp
          split at hp
          · rename_i hpl
            have hargs : All2 (VRel s) (args.toList.map ρ) (args.toList.map ρ') := All2.of_fun _ fun x hx => hops x (by simp [Op.operands, Call.operands]; right; simpa using hx)
            have eargs : args.toList.map ρ' = args.toList.map ρ := hargs.eq fun a b ha r => vrel_plain r (List.all_eq_true.1 hpl a ha)
            split at hp
            · rename_i u hrun
              split at hp
              · rename_i hpu
                simp only [Option.some.injEq] at hp; subst hp
                refine ⟨_, vrel_of_plain hpu, fun w => ?_⟩
                have h1 := runP_run hrun w
                rw [← eargs] at h1
                have e1 : args.map ρ' = (args.toList.map ρ').toArray := by apply Array.ext'; simp
                have e2 : ρ' (.func f) = .func (.func f) #[] #[] := hr.2.1.2 f
                simp [execOp, resolve, Deferred.ofValue, invoke, e1, e2, h1]
              · cases hp
            · cases hp
          · cases hp
        · cases hf
      | tmp f => simp at hf
      | const f => simp at hf
      | global f => simp at hf
    | invoke r m => simp at hf
    | builtin b =>
      have hargs : All2 (VRel s) (args.toList.map ρ) (args.toList.map ρ') := All2.of_fun _ fun x hx => hops x (by simp [Op.operands, Call.operands]; simpa using hx)
      have e : ∀ f : Array TypeId → TypeId → Array Value → Sem Value, ∀ v' : Value, (∀ w, (f argTypes type (args.toList.map ρ').toArray).run P w = .ok v' w) →
          ∀ w, ((do pure (Next.value (← f argTypes type (args.map ρ'))) : Sem Next)).run P w = .ok (.value v') w := by
        intro f v' h w
        have : args.map ρ' = (args.toList.map ρ').toArray := by apply Array.ext'; simp
        rw [this]
        simp [h w]
      cases b with
      | len =>
        simp only at hf
        split at hf
        · rename_i x hd hx
          simp only [Option.some.injEq] at hf; subst hf
          rw [hx] at hargs e
          have hxr := hargs.2 0 (ρ x) (ρ' x) rfl rfl
          simp only [Option.bind_eq_some_iff] at hd
          obtain ⟨t0, ht0, hd⟩ := hd
          simp only [pureA, lenSA] at hp
          split at hp
          · rename_i b hk
            rw [hk] at hxr
            have ex := vrel_plain hxr rfl
            simp only [Option.some.injEq] at hp; subst hp
            refine ⟨_, vrel_int _ _, fun w => ?_⟩
            have := e Builtin.len_ (.int .i64 b.size) (fun w => by simp [Builtin.len_, ht0, ex, run_underlying hd, goInt]) w
            simpa [execOp, resolve, invoke, builtin] using this
          · simp at hp
        · rename_i el x hd hx
          simp only [Option.some.injEq] at hf; subst hf
          rw [hx] at hargs e
          have hxr := hargs.2 0 (ρ x) (ρ' x) rfl rfl
          simp only [Option.bind_eq_some_iff] at hd
          obtain ⟨t0, ht0, hd⟩ := hd
          simp only [pureA, lenA] at hp
          split at hp
          · rename_i a n c hk
            rw [hk] at hxr
            simp only [Option.some.injEq] at hp; subst hp
            obtain ⟨a', c', ex⟩ : ∃ a' c', ρ' x = .slice a' n c' := by
              generalize ρ' x = u at hxr
              cases a with
              | none =>
                cases hxr with
                | one r => cases r with
                  | one r => cases r with
                    | base r => cases r with
                      | plain _ h => exact ⟨_, _, rfl⟩
              | some a =>
                rcases vrel_slice hxr with ⟨_, _, _, _, _, _, _, _, _, _, _, h⟩ | ⟨_, rfl, _, h⟩
                · exact ⟨_, _, h⟩
                · exact ⟨_, _, h⟩
            refine ⟨_, vrel_int _ _, fun w => ?_⟩
            have := e Builtin.len_ (.int .i64 n) (fun w => by simp [Builtin.len_, ht0, ex, run_underlying hd, goInt]) w
            simpa [execOp, resolve, invoke, builtin] using this
          · simp at hp
        · simp at hf
      | max =>
        simp only [Option.some.injEq] at hf; subst hf
        obtain ⟨v', r, h⟩ := mxA_sound (P := P) (by simpa [pureA] using hp) hargs argTypes type
        exact ⟨v', r, fun w => by
          have := e Builtin.max_ v' h w
          simpa [execOp, resolve, invoke, builtin] using this⟩
      | min =>
        simp only [Option.some.injEq] at hf; subst hf
        obtain ⟨v', r, h⟩ := mnA_sound (P := P) (by simpa [pureA] using hp) hargs argTypes type
        exact ⟨v', r, fun w => by
          have := e Builtin.min_ v' h w
          simpa [execOp, resolve, invoke, builtin] using this⟩
      | real =>
        simp only at hf
        split at hf
        · rename_i x hx
          simp only [Option.some.injEq] at hf; subst hf
          rw [hx] at hargs e
          have hxr := hargs.2 0 (ρ x) (ρ' x) rfl rfl
          simp only [pureA, reA] at hp
          split at hp
          · rename_i k a b hk
            rw [hk] at hxr
            have ex := vrel_plain hxr rfl
            simp only [Option.some.injEq] at hp; subst hp
            refine ⟨_, vrel_of_plain rfl, fun w => ?_⟩
            have := e Builtin.real_ (.float k a) (fun w => by show (Builtin.real_ argTypes type #[ρ' x]).run P w = _; rw [ex]; rfl) w
            simpa [execOp, resolve, invoke, builtin] using this
          · simp at hp
        · simp at hf
      | imag =>
        simp only at hf
        split at hf
        · rename_i x hx
          simp only [Option.some.injEq] at hf; subst hf
          rw [hx] at hargs e
          have hxr := hargs.2 0 (ρ x) (ρ' x) rfl rfl
          simp only [pureA, imA] at hp
          split at hp
          · rename_i k a b hk
            rw [hk] at hxr
            have ex := vrel_plain hxr rfl
            simp only [Option.some.injEq] at hp; subst hp
            refine ⟨_, vrel_of_plain rfl, fun w => ?_⟩
            have := e Builtin.imag_ (.float k b) (fun w => by show (Builtin.imag_ argTypes type #[ρ' x]).run P w = _; rw [ex]; rfl) w
            simpa [execOp, resolve, invoke, builtin] using this
          · simp at hp
        · simp at hf
      | complex =>
        simp only at hf
        split at hf
        · rename_i x y hx
          simp only [Option.some.injEq] at hf; subst hf
          rw [hx] at hargs e
          have hxr := hargs.2 0 (ρ x) (ρ' x) rfl rfl
          have hyr := hargs.2 1 (ρ y) (ρ' y) rfl rfl
          simp only [pureA, cxA] at hp
          split at hp
          · rename_i k a k' b hk hk'
            rw [hk] at hxr; rw [hk'] at hyr
            have ex := vrel_plain hxr rfl
            have ey := vrel_plain hyr rfl
            split at hp
            · rename_i hkk
              simp only [Option.some.injEq] at hp; subst hp
              refine ⟨_, vrel_of_plain rfl, fun w => ?_⟩
              have := e Builtin.complex_ (.complex k a b) (fun w => by show (Builtin.complex_ argTypes type #[ρ' x, ρ' y]).run P w = _; rw [ex, ey]; show Sem.run P (if k = k' then pure (Value.complex k a b) else stuck _) w = _; rw [if_pos hkk]; rfl) w
              simpa [execOp, resolve, invoke, builtin] using this
            · simp at hp
          · simp at hp
        · simp at hf
      | append =>
        simp only at hf
        split at hf
        · split at hf
          · split at hf
            · simp only [Option.bind_eq_some_iff] at hf
              obtain ⟨n, _, z, _, hf⟩ := hf
              split at hf
              · simp only [Option.some.injEq] at hf; subst hf; simp [pureA] at hp
              · simp at hf
            · simp at hf
          · simp at hf
        · simp at hf
      | clear =>
        simp only at hf
        split at hf
        · simp only [Option.bind_eq_some_iff] at hf
          obtain ⟨n, _, z, _, hf⟩ := hf
          split at hf
          · simp only [Option.some.injEq] at hf; subst hf; simp [pureA] at hp
          · simp at hf
        · simp at hf
      | _ => simp at hf
  | load t a => simp only [Option.map_eq_some_iff] at hf; obtain ⟨n, _, rfl⟩ := hf; simp [pureA] at hp
  | store t a v => simp only [Option.map_eq_some_iff] at hf; obtain ⟨n, _, rfl⟩ := hf; simp [pureA] at hp
  | alloc t => simp only [Option.map_eq_some_iff] at hf; obtain ⟨n, _, rfl⟩ := hf; simp [pureA] at hp
  | box t x => simp only [Option.some.injEq] at hf; subst hf; simp [pureA] at hp
  | buildSlice t len ps =>
    simp only at hf
    split at hf
    · simp only [Option.bind_eq_some_iff] at hf
      obtain ⟨n, _, z, _, hf⟩ := hf
      split at hf
      · simp only [Option.some.injEq] at hf; subst hf; simp [pureA] at hp
      · simp at hf
    · simp at hf
  | makeSlice t l c =>
    simp only at hf
    split at hf
    · simp only [Option.bind_eq_some_iff] at hf
      obtain ⟨n, _, z, _, hf⟩ := hf
      split at hf
      · simp only [Option.some.injEq] at hf; subst hf; simp [pureA] at hp
      · simp at hf
    · simp at hf
  | _ => simp at hf
end
end Go.Ab

namespace Go.Ab
open Go

/-! ### The abstract heap -/
/-- A block: its cells (a beginning of what lies there), may it be written, and the block whose memory it may share. -/
structure Blk where
  cells : List Value
  own : Bool
  par : Option Nat
structure Heap where
  get : Nat → Option Blk
  next : Nat
def Heap.push (H : Heap) (k : Blk) : Heap := ⟨fun i => if i = H.next then some k else H.get i, H.next + 1⟩
def Heap.put (H : Heap) (b : Nat) (k : Blk) : Heap := ⟨fun i => if i = b then some k else H.get i, H.next⟩
def Heap.kill (H : Heap) (o : Option Nat) : Heap := match o with | none => H | some b => ⟨fun i => if i = b then none else H.get i, H.next⟩

def rdH (H : Heap) (b off n : Nat) : Option (List Value) := (H.get b).bind fun k => if off + n ≤ k.cells.length then some ((k.cells.drop off).take n) else none
def ldA (n : Option Nat) (H : Heap) (a : Value) : Option Value :=
  match a with
  | .pointer (some ⟨b, o, none⟩) => match n with
    | none => (H.get b).bind fun k => k.cells[o]?
    | some m => (rdH H b o m).map fun cs => .agg cs.toArray
  | _ => none
def wrH (H : Heap) (b off : Nat) (vs : List Value) : Option Heap :=
  (H.get b).bind fun k => if k.own = true ∧ off + vs.length ≤ k.cells.length then some ((H.kill k.par).put b ⟨putCells k.cells off vs, true, none⟩) else none
def stA (n : Nat) (H : Heap) (a v : Value) : Option Heap :=
  match a with
  | .pointer (some ⟨b, o, none⟩) => if isTup v = false ∧ (cellsV v).length = n then wrH H b o (cellsV v) else none
  | _ => none
def replA (n : Nat) (z : List Value) : List Value := (List.range (n * z.length)).map fun i => z.getD (i % z.length) undef
/-- What a slice holds. -/
def slcA (size : Nat) (H : Heap) (x : Value) : Option (Nat × List Value) :=
  match x with
  | .slice none 0 0 => some (0, [])
  | .slice (some ⟨b, o, none⟩) n _ => if n = 0 then some (0, []) else (rdH H b o (n * size)).map fun cs => (n, cs)
  | _ => none
def mkS (b n c : Nat) : Value := .slice (some ⟨b, 0, none⟩) n c
def appA (size bytes : Nat) (H : Heap) (s x : Value) : Option (Value × Heap) :=
  (slcA size H x).bind fun p =>
    match s with
    | .slice none 0 0 =>
      if p.1 = 0 then some (s, H) else if p.1 ≤ 1073741824 then some (mkS H.next p.1 size, H.push ⟨p.2, true, none⟩) else none
    | .slice (some ⟨b, o, none⟩) len c =>
      if p.1 = 0 then some (s, H)
      else if len + p.1 ≤ 1073741824 then
        if c / 64 ≠ 0 ∧ c / 64 < 2 * (len + p.1) + 1 then
          (slcA size H s).map fun q => (mkS H.next (len + p.1) size, H.push ⟨q.2 ++ p.2, true, none⟩)
        else (H.get b).bind fun k =>
          if k.own = true ∧ c % 64 = size ∧ o + len * size ≤ k.cells.length then
            some (mkS H.next (len + p.1) size, ((H.kill k.par).put b ⟨k.cells.take (o + len * size), false, none⟩).push ⟨(k.cells.drop o).take (len * size) ++ p.2, true, some b⟩)
          else none
      else none
    | _ => none
def msA (size bytes : Nat) (z : List Value) (H : Heap) (l c : Value) : Option (Value × Heap) :=
  match l, c with
  | .int _ l, .int _ c => if 0 ≤ l ∧ l ≤ c ∧ c ≤ 1073741824 ∧ c * bytes ≤ 140737488355328 then some (mkS H.next l.toNat ((2 * c.toNat + 1) * 64 + size), H.push ⟨replA c.toNat z, true, none⟩) else none
  | _, _ => none
def clrA (z : List Value) (H : Heap) (x : Value) : Option Heap :=
  match x with
  | .slice none 0 0 => some H
  | .slice (some ⟨b, o, none⟩) n _ => if n = 0 then some H else wrH H b o (replA n z)
  | _ => none

def memA (o : AOp) (ρ : Operand → Value) (H : Heap) : Option (Value × Heap) :=
  match o with
  | .ld n a => (ldA n H (ρ a)).map fun v => (v, H)
  | .st n a v => (stA n H (ρ a) (ρ v)).map fun H => (undef, H)
  | .bx v => if isTup (ρ v) = false then some (.pointer (some ⟨H.next, 0, none⟩), H.push ⟨cellsV (ρ v), true, none⟩) else none
  | .al z => some (.pointer (some ⟨H.next, 0, none⟩), H.push ⟨z, true, none⟩)
  | .bs len size z parts => (fillA ρ parts (replA len z)).map fun cs => (mkS H.next len ((2 * len + 1) * 64 + size), H.push ⟨cs, true, none⟩)
  | .ms size bytes z l c => msA size bytes z H (ρ l) (ρ c)
  | .app size bytes z s x => appA size bytes H (ρ s) (ρ x)
  | .clr _ z x => (clrA z H (ρ x)).map fun H => (.tuple #[], H)
  | _ => none

/-! ### The relation of heaps -/
structure HRel (base nG : Nat) (s : Sig) (H : Heap) (w : World) : Prop where
  live : ∀ b k, H.get b = some k → ∃ g d m c e fr, s b = some (g, d, m) ∧ w.heap[g]? = some (.cells c e fr) ∧ (∀ (j : Nat) v, k.cells[j]? = some v → ∃ v', c[d + j]? = some v' ∧ LRel s v v') ∧
    (k.own = true → fr = (0, 0) ∧ base ≤ g) ∧ d + m ≤ c.size
  sep : ∀ b k b' k', b ≠ b' → H.get b = some k → k.own = true → H.get b' = some k' → ∀ p p', s b = some p → s b' = some p' → p.1 ≠ p'.1 ∨ k.par = some b'
  fresh : ∀ b, H.next ≤ b → H.get b = none ∧ s b = none
  glob : ∀ g, g < nG → ∃ m, s g = some (g, 0, m)
  basew : base ≤ w.heap.size

structure Ext (s : Sig) (H : Heap) (w : World) (s' : Sig) (H' : Heap) (w' : World) : Prop where
  le : s.le s'
  os : w'.os = w.os
  tape : w'.tape = w.tape
  output : w'.output = w.output
  size : w.heap.size ≤ w'.heap.size
  frame : ∀ g, g < w.heap.size → (∀ b k p, H.get b = some k → k.own = true → s b = some p → p.1 ≠ g) → w'.heap[g]? = w.heap[g]?
  own : ∀ b k p, H'.get b = some k → k.own = true → s' b = some p → w.heap.size ≤ p.1 ∨ ∃ b0 k0 p0, H.get b0 = some k0 ∧ k0.own = true ∧ s b0 = some p0 ∧ p0.1 = p.1
theorem Ext.refl (s : Sig) (H : Heap) (w : World) : Ext s H w s H w :=
  ⟨s.le_refl, rfl, rfl, rfl, Nat.le_refl _, fun _ _ _ => rfl, fun b k p h1 h2 h3 => .inr ⟨b, k, p, h1, h2, h3, rfl⟩⟩
theorem Ext.trans {s : Sig} {H : Heap} {w : World} {s1 : Sig} {H1 : Heap} {w1 : World} {s2 : Sig} {H2 : Heap} {w2 : World} (a : Ext s H w s1 H1 w1) (b : Ext s1 H1 w1 s2 H2 w2) : Ext s H w s2 H2 w2 := by
  refine ⟨Sig.le_trans a.le b.le, b.os.trans a.os, b.tape.trans a.tape, b.output.trans a.output, Nat.le_trans a.size b.size, fun g hg h => ?_, fun c k p h1 h2 h3 => ?_⟩
  · rw [b.frame g (Nat.lt_of_lt_of_le hg a.size) ?_, a.frame g hg h]
    intro c k p h1 h2 h3
    rcases a.own c k p h1 h2 h3 with h4 | ⟨b0, k0, p0, h4, h5, h6, h7⟩
    · omega
    · rw [← h7]; exact h b0 k0 p0 h4 h5 h6
  · rcases b.own c k p h1 h2 h3 with h4 | ⟨b0, k0, p0, h4, h5, h6, h7⟩
    · left; have := a.size; omega
    · rcases a.own b0 k0 p0 h4 h5 h6 with h8 | ⟨b1, k1, p1, h8, h9, h10, h11⟩
      · left; omega
      · right; exact ⟨b1, k1, p1, h8, h9, h10, h11.trans h7⟩
/-- Draws alone. -/
theorem Ext.drew {s : Sig} {H : Heap} {w : World} {s1 : Sig} {H1 : Heap} {w1 : World} (a : Ext s H w s1 H1 w1) : Ext s H w s1 H1 w1.drew :=
  ⟨a.le, a.os, a.tape, a.output, a.size, a.frame, a.own⟩
theorem HRel.drew {base nG : Nat} {s : Sig} {H : Heap} {w : World} (a : HRel base nG s H w) : HRel base nG s H w.drew := ⟨a.live, a.sep, a.fresh, a.glob, a.basew⟩
theorem Ext.below {base nG : Nat} {s : Sig} {H : Heap} {w : World} {s1 : Sig} {H1 : Heap} {w1 : World} (a : Ext s H w s1 H1 w1) (h : HRel base nG s H w) : RowKit.Below base w w1 := by
  refine ⟨a.os, a.tape, a.output, a.size, fun k hk => a.frame k (Nat.lt_of_lt_of_le hk h.basew) fun b kb p h1 h2 h3 => ?_⟩
  obtain ⟨g, d, m, c, e, fr, h4, h5, _, h6, _⟩ := h.live b kb h1
  rw [h3] at h4
  obtain rfl := Option.some.inj h4
  have := (h6 h2).2
  simp only; omega

def Sig.add (s : Sig) (b : Nat) (p : Nat × Nat × Nat) : Sig := fun i => if i = b then some p else s i
theorem Sig.le_add {s : Sig} {b : Nat} {p : Nat × Nat × Nat} (h : s b = none) : s.le (s.add b p) := by
  intro c q hq
  unfold Sig.add
  split
  · rename_i e; subst e; rw [h] at hq; cases hq
  · exact hq

section
variable {base nG : Nat} {s : Sig} {H : Heap} {w : World}

theorem HRel.lt (h : HRel base nG s H w) {b : Nat} {k : Blk} (hb : H.get b = some k) : b < H.next := by
  rcases Nat.lt_or_ge b H.next with h1 | h1
  · exact h1
  · rw [(h.fresh b h1).1] at hb; cases hb
theorem HRel.blk_lt (h : HRel base nG s H w) {b : Nat} {k : Blk} (hb : H.get b = some k) {p : Nat × Nat × Nat} (hp : s b = some p) : p.1 < w.heap.size := by
  obtain ⟨g, d, m, c, e, fr, h1, h2, _⟩ := h.live b k hb
  rw [hp] at h1; obtain rfl := Option.some.inj h1
  exact (Array.getElem?_eq_some_iff.1 h2).1

/-- A new block. -/
theorem push_rel (h : HRel base nG s H w) (cells : List Value) (arr : Array Value) (e : TypeId)
    (hc : ∀ (j : Nat) v, cells[j]? = some v → ∃ v', arr[j]? = some v' ∧ LRel s v v') :
    HRel base nG (s.add H.next (w.heap.size, 0, arr.size)) (H.push ⟨cells, true, none⟩) (w.alloc (.cells arr e)) ∧
    Ext s H w (s.add H.next (w.heap.size, 0, arr.size)) (H.push ⟨cells, true, none⟩) (w.alloc (.cells arr e)) := by
  have hs0 : s H.next = none := (h.fresh _ (Nat.le_refl _)).2
  have hle : s.le (s.add H.next (w.heap.size, 0, arr.size)) := Sig.le_add hs0
  have hold : ∀ b, b ≠ H.next → s.add H.next (w.heap.size, 0, arr.size) b = s b := fun b hb => by simp [Sig.add, hb]
  refine ⟨⟨?_, ?_, ?_, ?_, by simp; have := h.basew; omega⟩, ⟨hle, rfl, rfl, rfl, by simp, ?_, ?_⟩⟩
  · intro b k hb
    simp only [Heap.push] at hb
    split at hb
    · rename_i e1; subst e1
      obtain rfl := Option.some.inj hb
      refine ⟨w.heap.size, 0, arr.size, arr, e, (0, 0), by simp [Sig.add], (by show (w.heap.push _)[w.heap.size]? = _; simp), fun j v hj => ?_, fun _ => ⟨rfl, h.basew⟩, by omega⟩
      obtain ⟨v', h1, h2⟩ := hc j v hj
      exact ⟨v', by simpa using h1, h2.mono hle⟩
    · rename_i hne
      obtain ⟨g, d, m, c, e', fr, h1, h2, h3, h4⟩ := h.live b k hb
      refine ⟨g, d, m, c, e', fr, by rw [hold b hne]; exact h1, ?_, fun j v hj => ?_, h4⟩
      · have := (Array.getElem?_eq_some_iff.1 h2).1
        show (w.heap.push _)[g]? = _
        rw [Array.getElem?_push, if_neg (by omega)]; exact h2
      · obtain ⟨v', h5, h6⟩ := h3 j v hj
        exact ⟨v', h5, h6.mono hle⟩
  · intro b k b' k' hne hb ho hb' p p' hp hp'
    simp only [Heap.push] at hb hb'
    by_cases e1 : b = H.next
    · subst e1
      rw [hold b' (by omega)] at hp'
      rw [if_neg (by omega)] at hb'
      have := h.blk_lt hb' hp'
      simp [Sig.add] at hp; subst hp
      left; simp only; omega
    · rw [if_neg e1] at hb
      rw [hold b e1] at hp
      by_cases e2 : b' = H.next
      · subst e2
        have := h.blk_lt hb hp
        simp [Sig.add] at hp'; subst hp'
        left; simp only; omega
      · rw [if_neg e2] at hb'
        rw [hold b' e2] at hp'
        exact h.sep b k b' k' hne hb ho hb' p p' hp hp'
  · intro b hb
    simp only [Heap.push] at hb ⊢
    have h1 := h.fresh b (by omega)
    rw [if_neg (by omega), hold b (by omega)]
    exact h1
  · intro g hg
    obtain ⟨m, this⟩ := h.glob g hg
    rw [hold g (by intro e1; subst e1; rw [hs0] at this; cases this)]
    exact ⟨m, this⟩
  · intro g hg _
    show (w.heap.push _)[g]? = _
    rw [Array.getElem?_push, if_neg (by omega)]
  · intro b k p hb ho hp
    simp only [Heap.push] at hb
    by_cases e1 : b = H.next
    · subst e1
      simp [Sig.add] at hp; subst hp
      left; simp
    · rw [if_neg e1] at hb
      rw [hold b e1] at hp
      exact .inr ⟨b, k, p, hb, ho, hp, rfl⟩
end
end Go.Ab

namespace Go.Ab
open Go

section
variable {P : Program} {base nG : Nat} {s : Sig} {H : Heap} {w : World}

theorem cell_at {g o : Nat} {c : Array Value} {e : TypeId} {fr : Nat × Nat} (h : w.heap[g]? = some (.cells c e fr)) : w.cell? ⟨g, o, none⟩ = c[o]? := by
  simp [World.cell?, h]

/-- A run of cells that is read. -/
theorem rd_rel (h : HRel base nG s H w) {b off n : Nat} {xs : List Value} (hx : rdH H b off n = some xs) {g d m0 : Nat} (hs : s b = some (g, d, m0)) :
    ∃ c e fr, w.heap[g]? = some (.cells c e fr) ∧ All2 (LRel s) xs ((c.toList.drop (off + d)).take n) ∧ xs.length = n := by
  unfold rdH at hx
  simp only [Option.bind_eq_some_iff] at hx
  obtain ⟨k, hk, hx⟩ := hx
  split at hx
  · rename_i hfit
    simp only [Option.some.injEq] at hx
    obtain ⟨g', d', m', c, e, fr, h1, h2, h3, _⟩ := h.live b k hk
    rw [hs] at h1; cases h1
    have hlen : xs.length = n := by rw [← hx]; simp; omega
    have hget : ∀ (j : Nat) (v : Value), xs[j]? = some v → ∃ v', c[d + (off + j)]? = some v' ∧ LRel s v v' := by
      intro j v hj
      rw [← hx, List.getElem?_take] at hj
      split at hj
      · rw [List.getElem?_drop] at hj
        exact h3 _ v hj
      · simp at hj
    refine ⟨c, e, fr, h2, ⟨?_, fun j a a' ha ha' => ?_⟩, hlen⟩
    · rw [hlen]
      rcases Nat.eq_zero_or_pos n with h0 | h0
      · subst h0; simp
      · have hl : (xs[n - 1]?).isSome = true := by rw [List.getElem?_eq_getElem (by omega)]; rfl
        obtain ⟨v, hv⟩ := Option.isSome_iff_exists.1 hl
        obtain ⟨v', h5, _⟩ := hget _ v hv
        have := (Array.getElem?_eq_some_iff.1 h5).1
        simp; omega
    · obtain ⟨v', h5, h6⟩ := hget j a ha
      rw [List.getElem?_take] at ha'
      split at ha'
      · rw [List.getElem?_drop] at ha'
        have : c[d + (off + j)]? = some a' := by rw [← Array.getElem?_toList, ← ha']; congr 1; omega
        rw [h5] at this
        obtain rfl := Option.some.inj this
        exact h6
      · simp at ha'
  · simp at hx
theorem run_rd {g o : Nat} {c : Array Value} {e : TypeId} {fr : Nat × Nat} (h : w.heap[g]? = some (.cells c e fr)) (n : Nat) (hl : ((c.toList.drop o).take n).length = n) :
    (∀ (j : Nat) v, ((c.toList.drop o).take n)[j]? = some v → w.cell? ((⟨g, o, none⟩ : Addr).add j) = some v) ∧
    (loadCells ⟨g, o, none⟩ n).run P w = .ok ((c.toList.drop o).take n).toArray w := by
  have h1 : ∀ (j : Nat) v, ((c.toList.drop o).take n)[j]? = some v → w.cell? ((⟨g, o, none⟩ : Addr).add j) = some v := by
    intro j v hj
    rw [add_none, cell_at h]
    rw [List.getElem?_take] at hj
    split at hj
    · rw [List.getElem?_drop] at hj; simpa using hj
    · simp at hj
  refine ⟨h1, ?_⟩
  have := run_loadCells_list (P := P) w ⟨g, o, none⟩ _ h1
  rwa [hl] at this

theorem ld_sound (h : HRel base nG s H w) {t : TypeId} {n : Option Nat} (hn : aggT P t = some n) {a a' v : Value} (hv : ldA n H a = some v) (r : VRel s a a') :
    ∃ v', VRel s v v' ∧ (Instr.loadAt t a').run P w = .ok v' w := by
  unfold ldA at hv
  split at hv
  · rename_i b o
    obtain ⟨g, d, m0, h1, _, rfl⟩ := vrel_ptr r
    obtain ⟨ra, rs⟩ := run_isAgg hn w
    split at hv
    · simp only [Option.bind_eq_some_iff] at hv
      obtain ⟨k, hk, hv⟩ := hv
      obtain ⟨g', d', m', c, e, fr, h2, h3, h4, _⟩ := h.live b k hk
      rw [h1] at h2; cases h2
      obtain ⟨v', h5, h6⟩ := h4 o v hv
      refine ⟨v', vrel_one h6, ?_⟩
      have hc : w.cell? ⟨g, o + d, none⟩ = some v' := by rw [cell_at h3, Nat.add_comm]; exact h5
      simp [Instr.loadAt, Instr.sureAddr, loadVar, ra, hc]
    · rename_i m
      simp only [Option.map_eq_some_iff] at hv
      obtain ⟨xs, hx, rfl⟩ := hv
      obtain ⟨c, e, fr, h2, h3, h4⟩ := rd_rel h hx h1
      have hl : ((c.toList.drop (o + d)).take m).length = m := by rw [← h3.1, h4]
      refine ⟨.agg _, .one (.agg _ _ h3), ?_⟩
      have h5 := (run_rd (P := P) h2 m hl).2
      have h6 := run_sizeOf (P := P) (rs m rfl) w
      simp only [Instr.loadAt, Instr.sureAddr, loadVar, Sem.run_bind, Sem.run_pure, Result.andThen_ok, ra, Option.isSome_some, if_true, h6, h5]
  · simp at hv

theorem lrel_oneCell {v u : Value} (r : LRel s v u) : u.oneCell' = true := by
  cases r with
  | base r => cases r with
    | plain v h => cases v <;> simp_all [plainL, Value.oneCell']
    | _ => rfl
  | func => rfl

theorem kill_get (o : Option Nat) (b : Nat) {k : Blk} (h : (H.kill o).get b = some k) : H.get b = some k ∧ o ≠ some b := by
  unfold Heap.kill at h
  split at h
  · exact ⟨h, by simp⟩
  · simp only at h
    split at h
    · simp at h
    · rename_i hne; exact ⟨h, fun e => hne (Option.some.inj e).symm⟩
theorem kill_next (o : Option Nat) : (H.kill o).next = H.next := by unfold Heap.kill; split <;> rfl
theorem kill_none (o : Option Nat) (b : Nat) (h : H.get b = none) : (H.kill o).get b = none := by
  unfold Heap.kill; split
  · exact h
  · simp only; split <;> simp [h]
theorem HRel.kill (h : HRel base nG s H w) (o : Option Nat) : HRel base nG s (H.kill o) w :=
  ⟨fun b k hb => h.live b k (kill_get o b hb).1, fun b k b' k' hne hb ho hb' => h.sep b k b' k' hne (kill_get o b hb).1 ho (kill_get o b' hb').1,
   fun b hb => by rw [kill_next] at hb; exact ⟨kill_none o b (h.fresh b hb).1, (h.fresh b hb).2⟩, h.glob, h.basew⟩

theorem setRow_get_same {g : Nat} {c : Array Value} {e : TypeId} {fr : Nat × Nat} (h : w.heap[g]? = some (.cells c e fr)) (cs : Array Value) : (w.setRow g cs).heap[g]? = some (.cells cs e fr) := by
  simp [World.setRow, Array.getElem?_modify, h]
theorem setRow_get_ne {g k : Nat} (cs : Array Value) (hne : k ≠ g) : (w.setRow g cs).heap[k]? = w.heap[k]? := by
  simp only [World.setRow, Array.getElem?_modify]
  rw [if_neg (by omega)]
theorem setRow_size (g : Nat) (cs : Array Value) : (w.setRow g cs).heap.size = w.heap.size := by simp [World.setRow]

theorem setRow_self {g : Nat} {c : Array Value} {e : TypeId} {fr : Nat × Nat} (h : w.heap[g]? = some (.cells c e fr)) : w.setRow g c = w := by
  have : (w.setRow g c).heap = w.heap := by
    apply Array.ext_getElem?
    intro i
    by_cases e1 : i = g
    · subst e1; rw [setRow_get_same h, h]
    · rw [setRow_get_ne _ e1]
  show ({ w with heap := (w.setRow g c).heap } : World) = w
  rw [this]

/-- A block of one's own, rewritten: its cells have become others (related), the one whose memory it may share is given up. -/
theorem rewrite_rel (h : HRel base nG s H w) {b : Nat} {k : Blk} (hb : H.get b = some k) (ho : k.own = true) {g d m0 : Nat} (hs : s b = some (g, d, m0)) (cells : List Value) (arr : Array Value) (own : Bool)
    (hc : ∀ (j : Nat) v, cells[j]? = some v → ∃ v', arr[d + j]? = some v' ∧ LRel s v v') (hsz : d + m0 ≤ arr.size) :
    HRel base nG s ((H.kill k.par).put b ⟨cells, own, none⟩) (w.setRow g arr) ∧ Ext s H w s ((H.kill k.par).put b ⟨cells, own, none⟩) (w.setRow g arr) := by
  obtain ⟨g', d', m', c, e, fr, h1, h2, h3, h4, h5⟩ := h.live b k hb
  rw [hs] at h1; cases h1
  have hfr := h4 ho
  have hother : ∀ b' k', b' ≠ b → (H.kill k.par).get b' = some k' → ∀ p', s b' = some p' → p'.1 ≠ g := by
    intro b' k' hne hb' p' hp'
    obtain ⟨h5, h6⟩ := kill_get _ _ hb'
    rcases h.sep b k b' k' (Ne.symm hne) hb ho h5 (g, d, m0) p' hs hp' with h7 | h7
    · exact fun e => h7 e.symm
    · exact absurd h7 h6
  refine ⟨⟨?_, ?_, ?_, h.glob, by rw [setRow_size]; exact h.basew⟩, ⟨s.le_refl, rfl, rfl, rfl, by rw [setRow_size]; exact Nat.le_refl _, ?_, ?_⟩⟩
  · intro b' k' hb'
    simp only [Heap.put] at hb'
    by_cases e1 : b' = b
    · subst e1
      rw [if_pos rfl] at hb'
      obtain rfl := Option.some.inj hb'
      exact ⟨g, d, m0, arr, e, fr, hs, setRow_get_same h2 arr, hc, fun _ => hfr, hsz⟩
    · rw [if_neg e1] at hb'
      obtain ⟨g', d', m', c', e', fr', h5, h6, h7, h8⟩ := h.live b' k' (kill_get _ _ hb').1
      exact ⟨g', d', m', c', e', fr', h5, by rw [setRow_get_ne _ (hother b' k' e1 hb' _ h5)]; exact h6, h7, h8⟩
  · intro b1 k1 b2 k2 hne hb1 ho1 hb2 p1 p2 hp1 hp2
    simp only [Heap.put] at hb1 hb2
    by_cases e1 : b1 = b
    · subst e1
      rw [if_neg (Ne.symm hne)] at hb2
      left
      have := hother b2 k2 (Ne.symm hne) hb2 p2 hp2
      rw [hs] at hp1; obtain rfl := Option.some.inj hp1
      exact fun e => this e.symm
    · rw [if_neg e1] at hb1
      by_cases e2 : b2 = b
      · subst e2
        left
        have := hother b1 k1 e1 hb1 p1 hp1
        rw [hs] at hp2; obtain rfl := Option.some.inj hp2
        exact this
      · rw [if_neg e2] at hb2
        exact h.sep b1 k1 b2 k2 hne (kill_get _ _ hb1).1 ho1 (kill_get _ _ hb2).1 p1 p2 hp1 hp2
  · intro b' hb'
    simp only [Heap.put, kill_next] at hb' ⊢
    have := h.lt hb
    rw [if_neg (by omega)]
    exact ⟨kill_none _ _ (h.fresh b' hb').1, (h.fresh b' hb').2⟩
  · intro g' hg' hn
    exact setRow_get_ne _ (fun e => by subst e; exact hn b k (g', d, m0) hb ho hs rfl)
  · intro b' k' p' hb' ho' hp'
    right
    simp only [Heap.put] at hb'
    by_cases e1 : b' = b
    · subst e1
      exact ⟨b', k, p', hb, ho, hp', rfl⟩
    · rw [if_neg e1] at hb'
      exact ⟨b', k', p', (kill_get _ _ hb').1, ho', hp', rfl⟩

theorem wr_sound (h : HRel base nG s H w) {b off : Nat} {vs vs' : List Value} {H' : Heap} (hw : wrH H b off vs = some H') (r : All2 (LRel s) vs vs') {g d m0 : Nat} (hs : s b = some (g, d, m0)) :
    ∃ w', (storeCells ⟨g, off + d, none⟩ vs').run P w = .ok () w' ∧ HRel base nG s H' w' ∧ Ext s H w s H' w' := by
  unfold wrH at hw
  simp only [Option.bind_eq_some_iff] at hw
  obtain ⟨k, hk, hw⟩ := hw
  split at hw
  · rename_i hc
    obtain ⟨ho, hfit⟩ := hc
    simp only [Option.some.injEq] at hw; subst hw
    obtain ⟨g', d', m', c, e, fr, h1, h2, h3, h4, hm⟩ := h.live b k hk
    rw [hs] at h1; cases h1
    obtain ⟨rfl, hb⟩ := h4 ho
    have hsz : k.cells.length = 0 ∨ d + k.cells.length ≤ c.size := by
      rcases Nat.eq_zero_or_pos k.cells.length with h0 | h0
      · exact .inl h0
      · right
        obtain ⟨v', h5, _⟩ := h3 (k.cells.length - 1) _ (List.getElem?_eq_getElem (by omega))
        have := (Array.getElem?_eq_some_iff.1 h5).1
        omega
    have h1c : ∀ v ∈ vs', v.oneCell' = true := by
      intro v hv
      obtain ⟨i, hi⟩ := List.getElem?_of_mem hv
      have hlt : i < vs.length := by rw [r.1]; exact (List.getElem?_eq_some_iff.1 hi).1
      exact lrel_oneCell (r.2 i _ v (List.getElem?_eq_getElem hlt) hi)
    by_cases h0 : vs = []
    · subst h0
      have : vs' = [] := List.eq_nil_of_length_eq_zero r.1.symm
      subst this
      have hrw := rewrite_rel h hk ho hs (putCells k.cells off []) c true (fun j v hj => h3 j v (by simpa [putCells] using hj)) hm
      have hww : w.setRow g c = w := setRow_self h2
      rw [hww] at hrw
      exact ⟨w, by simp [storeCells], hrw.1, hrw.2⟩
    · have hpos : 0 < vs.length := List.length_pos_iff.2 h0
      have hfit2 : off + d + 0 + vs'.length ≤ c.size := by
        rcases hsz with h5 | h5
        · omega
        · rw [← r.1]; omega
      have hrun := run_storeCells_at P g (off + d) e vs' 0 c w h2 hfit2 h1c
      simp only [Nat.add_zero] at hrun
      refine ⟨_, hrun, ?_⟩
      refine rewrite_rel h hk ho hs (putCells k.cells off vs) _ true (fun j v hj => ?_) (by
        have := putCells_length c.toList (off + d) vs' (by simpa using hfit2)
        simp only [putCells, Array.length_toList] at this
        rw [List.size_toArray, this]; exact hm)
      rw [putCells_get _ _ _ hfit] at hj
      have harr : ∀ i, (List.take (off + d) c.toList ++ vs' ++ List.drop (off + d + vs'.length) c.toList).toArray[i]? = if off + d ≤ i ∧ i < off + d + vs'.length then vs'[i - (off + d)]? else c[i]? := by
        intro i
        have := putCells_get c.toList (off + d) vs' (by simpa using hfit2) i
        simpa [putCells] using this
      rw [harr]
      split at hj
      · rename_i hin
        rw [if_pos (by rw [← r.1]; omega)]
        obtain ⟨v', h5, h6⟩ := r.get hj
        exact ⟨v', by rw [← h5]; congr 1; omega, h6⟩
      · rename_i hout
        rw [if_neg (by rw [← r.1]; omega)]
        exact h3 j v hj
  · simp at hw

theorem st_sound (h : HRel base nG s H w) {t : TypeId} {n : Nat} (hn : sizeT P t = some n) {a a' v v' : Value} {H' : Heap} (hst : stA n H a v = some H') (ra : VRel s a a') (rv : VRel s v v') :
    ∃ w', (Instr.storeAt t a' v').run P w = .ok () w' ∧ HRel base nG s H' w' ∧ Ext s H w s H' w' := by
  unfold stA at hst
  split at hst
  · rename_i b o
    obtain ⟨g, d, m0, h1, _, rfl⟩ := vrel_ptr ra
    split at hst
    · rename_i hc
      obtain ⟨hr, _⟩ := vrel_cells rv hc.1
      obtain ⟨w', h2, h3, h4⟩ := wr_sound (P := P) h hst hr h1
      refine ⟨w', ?_, h3, h4⟩
      have h5 := run_sizeOf (P := P) hn w
      have hsz : v'.cells.size = n := by
        have := hc.2
        rw [hr.1] at this
        simpa [cellsV] using this
      simp only [Instr.storeAt, Instr.sureAddr, storeVar, Sem.run_bind, Sem.run_pure, Result.andThen_ok, h5]
      simp only [hsz, ne_eq, not_true_eq_false, if_false]
      exact h2
    · simp at hst
  · simp at hst
end
end Go.Ab

namespace Go.Ab
open Go

section
variable {P : Program} {base nG : Nat} {s : Sig} {H : Heap} {w : World}

theorem run_append_zero (t ty e : TypeId) (i : TypeInfo) (ht : P.underlying t = some (.slice e)) (hi : P.info? e = some i) (a b : Option Addr) (sLen sCap c : Nat) (h : sLen ≤ sCap) :
    (Builtin.append_ #[t, t] ty #[.slice a sLen sCap, .slice b 0 c]).run P w = .ok (.slice a sLen sCap) w := by
  cases a <;> cases b <;> simp [Builtin.append_, run_underlying ht, sizeOf, typeInfo, hi, Builtin.lenOf, h, Builtin.firstCells, loadCells, loadCellsFrom, storeCells]
theorem run_append_place (t ty e : TypeId) (i : TypeInfo) (ht : P.underlying t = some (.slice e)) (hi : P.info? e = some i)
    (g o sLen sCap : Nat) (cur : Array Value) (e2 : TypeId) (hg : w.heap[g]? = some (.cells cur e2 (0, 0)))
    (a : Addr) (m c : Nat) (news : List Value) (hl : news.length = m * i.size) (hnews : ∀ (j : Nat) u, news[j]? = some u → w.cell? (a.add j) = some u) (h1 : ∀ u ∈ news, u.oneCell' = true)
    (hroom : sLen + m ≤ sCap) (hfit : o + sLen * i.size + news.length ≤ cur.size) :
    (Builtin.append_ #[t, t] ty #[.slice (some ⟨g, o, none⟩) sLen sCap, .slice (some a) m c]).run P w =
      .ok (.slice (some ⟨g, o, none⟩) (sLen + m) sCap) (w.setRow g (cur.toList.take (o + sLen * i.size) ++ news ++ cur.toList.drop (o + sLen * i.size + news.length)).toArray) := by
  have hf := run_firstCells_some (P := P) w i.size m a m c news hl hnews
  have hst := run_storeCells_at P g (o + sLen * i.size) e2 news 0 cur w hg (by simpa using hfit) h1
  simp only [Nat.add_zero] at hst
  simp [Builtin.append_, run_underlying ht, sizeOf, typeInfo, hi, Builtin.lenOf, hroom, hf, add_none, hst]

/-- What a slice holds, on both sides. -/
theorem slc_rel (h : HRel base nG s H w) {size n : Nat} {x x' : Value} {xs : List Value} (hx : slcA size H x = some (n, xs)) (r : VRel s x x') :
    ∃ a c' xs', x' = .slice a n c' ∧ n ≤ c' ∧ All2 (LRel s) xs xs' ∧ xs.length = n * size ∧ (n = 0 ∨ ∃ ad, a = some ad ∧ ∀ (j : Nat) u, xs'[j]? = some u → w.cell? (ad.add j) = some u) := by
  unfold slcA at hx
  split at hx
  · simp only [Option.some.injEq, Prod.mk.injEq] at hx
    obtain ⟨rfl, rfl⟩ := hx
    have := vrel_plain r rfl
    subst this
    exact ⟨none, 0, [], rfl, Nat.le_refl _, All2.nil, by simp, .inl rfl⟩
  · rename_i b o n' c
    split at hx
    · rename_i h0
      subst h0
      simp only [Option.some.injEq, Prod.mk.injEq] at hx
      obtain ⟨rfl, rfl⟩ := hx
      rcases vrel_slice r with ⟨b1, g, d, m, off, c', hA, hσ, hcap, hce, _, rfl⟩ | ⟨a', _, _, rfl⟩
      · exact ⟨_, c', [], rfl, Nat.zero_le _, All2.nil, by simp, .inl rfl⟩
      · exact ⟨_, 0, [], rfl, Nat.zero_le _, All2.nil, by simp, .inl rfl⟩
    · rename_i h0
      simp only [Option.map_eq_some_iff, Prod.mk.injEq] at hx
      obtain ⟨cs, hcs, rfl, rfl⟩ := hx
      rcases vrel_slice r with ⟨b1, g, d, m, off, c', hA, hσ, hcap, hce, _, rfl⟩ | ⟨a', h2, _, rfl⟩
      · cases hA
        obtain ⟨cc, e, fr, h3, h4, h5⟩ := rd_rel h hcs hσ
        have hl : ((cc.toList.drop (o + d)).take (n' * size)).length = n' * size := by rw [← h4.1, h5]
        exact ⟨_, c', _, rfl, hcap, h4, h5, .inr ⟨_, rfl, (run_rd (P := default) h3 _ hl).1⟩⟩
      · exact absurd h2 h0
  · simp at hx

theorem all2_one {vs vs' : List Value} (r : All2 (LRel s) vs vs') : ∀ v ∈ vs', v.oneCell' = true := by
  intro v hv
  obtain ⟨i, hi⟩ := List.getElem?_of_mem hv
  have hlt : i < vs.length := by rw [r.1]; exact (List.getElem?_eq_some_iff.1 hi).1
  exact lrel_oneCell (r.2 i _ v (List.getElem?_eq_getElem hlt) hi)

theorem Sig.add_at (b : Nat) (p : Nat × Nat × Nat) : s.add b p b = some p := by simp [Sig.add]
theorem mkS_rel {b n c g d m c' : Nat} (hs : s b = some (g, d, m)) (hn : n ≤ c') (hc : c / 64 = 0 ∨ c / 64 = 2 * c' + 1) (hl : c' * (c % 64) ≤ m) : VRel s (mkS b n c) (.slice (some ⟨g, d, none⟩) n c') := by
  have := PRel.slice (s := s) b g d m 0 n c c' hs hn hc (by omega)
  rw [Nat.zero_add] at this
  exact .one (.one (.base this))

/-- A new row: the cells that are wanted, and whatever lies behind them. -/
theorem push_more (h : HRel base nG s H w) (xs xs' : List Value) (rest : Array Value) (e : TypeId) (r : All2 (LRel s) xs xs') (arr : Array Value) (ha : arr = xs'.toArray ++ rest) :
    HRel base nG (s.add H.next (w.heap.size, 0, arr.size)) (H.push ⟨xs, true, none⟩) (w.alloc (.cells arr e)) ∧
    Ext s H w (s.add H.next (w.heap.size, 0, arr.size)) (H.push ⟨xs, true, none⟩) (w.alloc (.cells arr e)) := by
  refine push_rel h xs arr e fun j v hj => ?_
  obtain ⟨v', h1, h2⟩ := r.get hj
  refine ⟨v', ?_, h2⟩
  have hlt : j < xs'.length := (List.getElem?_eq_some_iff.1 h1).1
  rw [ha, Array.getElem?_append_left (by simpa using hlt)]
  simpa using h1

/-- A new abstract block that shares the memory of one that is spent. -/
theorem share_rel (h : HRel base nG s H w) {b : Nat} {k : Blk} (hb : H.get b = some k) (hown : k.own = false) {g d m o : Nat} (hs : s b = some (g, d, m)) (hom : o ≤ m) (cells : List Value) {c : Array Value} {e : TypeId}
    (hg : w.heap[g]? = some (.cells c e (0, 0))) (hbase : base ≤ g) (hcell : ∀ (j : Nat) v, cells[j]? = some v → ∃ v', c[d + o + j]? = some v' ∧ LRel s v v') (hm : d + m ≤ c.size)
    (hsole : ∀ b' k' (p' : Nat × Nat × Nat), b' ≠ b → H.get b' = some k' → s b' = some p' → p'.1 ≠ g) :
    HRel base nG (s.add H.next (g, d + o, m - o)) (H.push ⟨cells, true, some b⟩) w ∧ s.le (s.add H.next (g, d + o, m - o)) ∧
    (∀ b' k' (p' : Nat × Nat × Nat), (H.push ⟨cells, true, some b⟩).get b' = some k' → k'.own = true → s.add H.next (g, d + o, m - o) b' = some p' → p'.1 = g ∨ (H.get b' = some k' ∧ s b' = some p')) := by
  have hs0 : s H.next = none := (h.fresh _ (Nat.le_refl _)).2
  have hle : s.le (s.add H.next (g, d + o, m - o)) := Sig.le_add hs0
  have hold : ∀ b, b ≠ H.next → s.add H.next (g, d + o, m - o) b = s b := fun b hb => by simp [Sig.add, hb]
  have hblt := h.lt hb
  refine ⟨⟨?_, ?_, ?_, ?_, h.basew⟩, hle, ?_⟩
  · intro b' k' hb'
    simp only [Heap.push] at hb'
    split at hb'
    · rename_i e1; subst e1
      obtain rfl := Option.some.inj hb'
      refine ⟨g, d + o, m - o, c, e, (0, 0), Sig.add_at _ _, hg, fun j v hj => ?_, fun _ => ⟨rfl, hbase⟩, by omega⟩
      obtain ⟨v', h1, h2⟩ := hcell j v hj
      exact ⟨v', h1, h2.mono hle⟩
    · rename_i hne
      obtain ⟨g', d', m', c', e', fr, h1, h2, h3, h4⟩ := h.live b' k' hb'
      refine ⟨g', d', m', c', e', fr, by rw [hold b' hne]; exact h1, h2, fun j v hj => ?_, h4⟩
      obtain ⟨v', h5, h6⟩ := h3 j v hj
      exact ⟨v', h5, h6.mono hle⟩
  · intro b1 k1 b2 k2 hne hb1 ho1 hb2 p1 p2 hp1 hp2
    simp only [Heap.push] at hb1 hb2
    by_cases e1 : b1 = H.next
    · subst e1
      rw [if_pos rfl] at hb1
      obtain rfl := Option.some.inj hb1
      rw [if_neg (by omega)] at hb2
      rw [hold b2 (by omega)] at hp2
      by_cases e2 : b2 = b
      · right; rw [e2]
      · left
        simp [Sig.add] at hp1; subst hp1
        exact fun e3 => hsole b2 k2 p2 e2 hb2 hp2 e3.symm
    · rw [if_neg e1] at hb1
      rw [hold b1 e1] at hp1
      by_cases e2 : b2 = H.next
      · subst e2
        left
        simp [Sig.add] at hp2; subst hp2
        have : b1 ≠ b := by intro e3; subst e3; rw [hb] at hb1; obtain rfl := Option.some.inj hb1; rw [hown] at ho1; cases ho1
        exact hsole b1 k1 p1 this hb1 hp1
      · rw [if_neg e2] at hb2
        rw [hold b2 e2] at hp2
        exact h.sep b1 k1 b2 k2 hne hb1 ho1 hb2 p1 p2 hp1 hp2
  · intro b' hb'
    simp only [Heap.push] at hb' ⊢
    rw [if_neg (by omega), hold b' (by omega)]
    exact h.fresh b' (by omega)
  · intro g' hg'
    obtain ⟨m', this⟩ := h.glob g' hg'
    rw [hold g' (by intro e1; subst e1; rw [hs0] at this; cases this)]
    exact ⟨m', this⟩
  · intro b' k' p' hb' ho' hp'
    simp only [Heap.push] at hb'
    by_cases e1 : b' = H.next
    · subst e1; simp [Sig.add] at hp'; subst hp'; exact .inl rfl
    · rw [if_neg e1] at hb'; rw [hold b' e1] at hp'; exact .inr ⟨hb', hp'⟩

/-- Who it may share with may be said, though it need not be so. -/
theorem setPar {cells : List Value} {s0 : Sig} {H0 : Heap} {w0 : World} {H1 : Heap} (q : Option Nat) (h : HRel base nG s (H1.push ⟨cells, true, none⟩) w) (x : Ext s0 H0 w0 s (H1.push ⟨cells, true, none⟩) w) :
    HRel base nG s (H1.push ⟨cells, true, q⟩) w ∧ Ext s0 H0 w0 s (H1.push ⟨cells, true, q⟩) w := by
  have conv : ∀ b k, (H1.push ⟨cells, true, q⟩).get b = some k → ∃ k', (H1.push ⟨cells, true, none⟩).get b = some k' ∧ k'.cells = k.cells ∧ k'.own = k.own ∧ (k'.par = k.par ∨ k'.par = none) := by
    intro b k hb
    simp only [Heap.push] at hb ⊢
    split at hb
    · obtain rfl := Option.some.inj hb
      exact ⟨⟨cells, true, none⟩, by rw [if_pos (by assumption)], rfl, rfl, .inr rfl⟩
    · exact ⟨k, by rw [if_neg (by assumption)]; exact hb, rfl, rfl, .inl rfl⟩
  refine ⟨⟨?_, ?_, ?_, h.glob, h.basew⟩, ⟨x.le, x.os, x.tape, x.output, x.size, x.frame, ?_⟩⟩
  · intro b k hb
    obtain ⟨k', h1, h2, h3, _⟩ := conv b k hb
    have := h.live b k' h1
    rw [h2, h3] at this
    exact this
  · intro b k b' k' hne hb ho hb' p p' hp hp'
    obtain ⟨k1, h1, h2, h3, h4⟩ := conv b k hb
    obtain ⟨k2, h5, h6, h7, h8⟩ := conv b' k' hb'
    rcases h.sep b k1 b' k2 hne h1 (by rw [h3]; exact ho) h5 p p' hp hp' with h9 | h9
    · exact .inl h9
    · rcases h4 with h4 | h4
      · right; rw [← h4]; exact h9
      · rw [h4] at h9; cases h9
  · intro b hb
    have := h.fresh b hb
    refine ⟨?_, this.2⟩
    simp only [Heap.push] at hb ⊢
    have h1 := this.1
    simp only [Heap.push] at h1
    rw [if_neg (by omega)] at h1 ⊢
    exact h1
  · intro b k p hb ho hp
    obtain ⟨k1, h1, h2, h3, _⟩ := conv b k hb
    exact x.own b k1 p h1 (by rw [h3]; exact ho) hp

theorem app_sound (h : HRel base nG s H w) {t e ty : TypeId} (ht : P.underlying t = some (.slice e)) {i : TypeInfo} (hi : P.info? e = some i) {z : List Value} (hz : zeroT P e = some z)
    (hsz : i.size = z.length) (hpos : 0 < i.size) (h64 : i.size < 64) (hby : i.bytes ≤ 4096) {a a' x x' v : Value} {H' : Heap} (hv : appA i.size i.bytes H a x = some (v, H')) (ra : VRel s a a') (rx : VRel s x x') :
    ∃ v' s' w', (Builtin.append_ #[t, t] ty #[a', x']).run P w = .ok v' w' ∧ VRel s' v v' ∧ HRel base nG s' H' w' ∧ Ext s H w s' H' w' := by
  obtain ⟨it, zv, hit, hzv, hzc, _⟩ := zeroT_some hz
  rw [hi] at hit; obtain rfl := Option.some.inj hit
  have hzl : zv.cells.size = i.size := by rw [hsz, ← hzc]; simp
  unfold appA at hv
  simp only [Option.bind_eq_some_iff] at hv
  obtain ⟨⟨n, xs⟩, hx, hv⟩ := hv
  obtain ⟨ax, cx, xs', rfl, hcx, rxs, hxl, hread⟩ := slc_rel h hx rx
  have hxl' : xs'.length = n * i.size := by rw [← rxs.1]; exact hxl
  -- the wanted length is small
  have small : ∀ k, k ≤ 1073741824 → k * i.bytes ≤ 140737488355328 := by
    intro k hk
    calc k * i.bytes ≤ 1073741824 * 4096 := Nat.mul_le_mul hk hby
      _ ≤ 140737488355328 := by omega
  split at hv
  · -- onto nil
    have := vrel_plain ra rfl
    subst this
    split at hv
    · rename_i h0
      simp only at h0; subst h0
      simp only [Option.some.injEq, Prod.mk.injEq] at hv
      obtain ⟨rfl, rfl⟩ := hv
      exact ⟨_, s, w, run_append_zero t ty e i ht hi none ax 0 0 cx (Nat.le_refl _), ra, h, Ext.refl ..⟩
    · rename_i h0
      simp only at h0
      split at hv
      · rename_i hs
        simp only at hs
        simp only [Option.some.injEq, Prod.mk.injEq] at hv
        obtain ⟨rfl, rfl⟩ := hv
        rcases hread with h1 | ⟨ad, rfl, hread⟩
        · exact absurd h1 h0
        have hrun := run_append_nil (P := P) w t ty e i zv ht hi hzv ad n cx xs' hxl' hread (by omega) (by omega) (by have := small n hs; omega)
        obtain ⟨h2, h3⟩ := push_more (h.drew) xs xs' _ e rxs _ rfl
        refine ⟨_, _, _, hrun, mkS_rel (Sig.add_at _ _) (grownCap_ge w n 0 e) (.inl (by omega)) (by rw [Nat.mod_eq_of_lt h64]; simp [size_zeroCells, hzl, hxl', ← Nat.add_mul]; exact Nat.le_of_eq (by congr 1; have := grownCap_ge w n 0 e; omega)), h2, (Ext.refl s H w).drew.trans h3⟩
      · simp at hv
  · rename_i b o len c
    split at hv
    · rename_i h0
      simp only at h0; subst h0
      simp only [Option.some.injEq, Prod.mk.injEq] at hv
      obtain ⟨rfl, rfl⟩ := hv
      rcases vrel_slice ra with ⟨b1, g, d, m, off, c', hA, hσ, hcap, hce, hlim, rfl⟩ | ⟨a', hl0, _, rfl⟩
      · exact ⟨_, s, w, run_append_zero t ty e i ht hi _ ax len c' cx hcap, ra, h, Ext.refl ..⟩
      · subst hl0
        exact ⟨_, s, w, run_append_zero t ty e i ht hi _ ax 0 0 cx (Nat.le_refl _), ra, h, Ext.refl ..⟩
    · rename_i h0
      simp only at h0
      rcases hread with h1 | ⟨ad, rfl, hread⟩
      · exact absurd h1 h0
      split at hv
      · rename_i hs
        simp only at hs
        -- growing, from whatever capacity
        have grows : ∀ (aa : Addr) (cap : Nat) (olds olds' : List Value), All2 (LRel s) olds olds' → olds.length = len * i.size → (∀ (j : Nat) u, olds'[j]? = some u → w.cell? (aa.add j) = some u) → cap < len + n →
            ∃ v' s' w', (Builtin.append_ #[t, t] ty #[.slice (some aa) len cap, .slice (some ad) n cx]).run P w = .ok v' w' ∧ VRel s' (mkS H.next (len + n) i.size) v' ∧
              HRel base nG s' (H.push ⟨olds ++ xs, true, none⟩) w' ∧ Ext s H w s' (H.push ⟨olds ++ xs, true, none⟩) w' := by
          intro aa cap olds olds' ro hol holds hcap
          have hrun := run_append_grow (P := P) w t ty e i zv ht hi hzv aa len cap olds' (by rw [← ro.1]; exact hol) holds ad n cx xs' hxl' hread hcap (by omega) (growslice_fits hcap (small _ hs))
          obtain ⟨h2, h3⟩ := push_more (h.drew) (olds ++ xs) (olds' ++ xs') (Builtin.zeroCells zv.cells (grownCap w (len + n) cap e - (len + n))) e (ro.append rxs) (olds'.toArray ++ xs'.toArray ++ Builtin.zeroCells zv.cells (grownCap w (len + n) cap e - (len + n))) (by simp)
          exact ⟨_, _, _, hrun, mkS_rel (Sig.add_at _ _) (grownCap_ge w _ _ e) (.inl (by omega)) (by rw [Nat.mod_eq_of_lt h64]; simp [size_zeroCells, hzl, hxl', ← ro.1, hol, ← Nat.add_mul]; exact Nat.le_of_eq (by congr 1; have := grownCap_ge w (len + n) cap e; omega)), h2, (Ext.refl s H w).drew.trans h3⟩
        split at hv
        · -- a known capacity that is too small
          rename_i hc
          simp only [Option.map_eq_some_iff, Prod.mk.injEq] at hv
          obtain ⟨⟨n2, olds⟩, hq, rfl, rfl⟩ := hv
          obtain ⟨aa, ca, olds', hsh, hlc, ro, hol, hr2⟩ := slc_rel h hq ra
          subst hsh
          have hn2 : n2 = len := by
            rcases vrel_slice ra with ⟨b1, g, d, m, off, c', hA, hσ, hcap, hce, hlim, he⟩ | ⟨a', hl0, _, he⟩
            · injection he
            · injection he with _ h5 _; omega
          subst hn2
          have hca : ca < n2 + n := by
            rcases vrel_slice ra with ⟨b1, g, d, m, off, c', hA, hσ, hcap, hce, hlim, he⟩ | ⟨a', hl0, _, he⟩
            · injection he with _ _ h5; simp only at hc; omega
            · injection he with _ _ h5; omega
          have haa : ∃ a2, aa = some a2 := by
            rcases vrel_slice ra with ⟨b1, g, d, m, off, c', hA, hσ, hcap, hce, hlim, he⟩ | ⟨a', hl0, _, he⟩
            · injection he with h5 _ _; exact ⟨_, h5⟩
            · injection he with h5 _ _; exact ⟨_, h5⟩
          obtain ⟨a2, rfl⟩ := haa
          have holds : ∀ (j : Nat) u, olds'[j]? = some u → w.cell? (a2.add j) = some u := by
            rcases hr2 with h5 | ⟨ad2, h6, h7⟩
            · subst h5
              intro j u hj
              have : olds' = [] := List.eq_nil_of_length_eq_zero (by rw [← ro.1, hol]; simp)
              subst this; simp at hj
            · obtain rfl := Option.some.inj h6; exact h7
          obtain ⟨v', s', w', h1, h2, h3, h4⟩ := grows a2 ca olds olds' ro hol holds hca
          exact ⟨v', s', w', h1, h2, h3, h4⟩
        · -- perhaps in place
          simp only [Option.bind_eq_some_iff] at hv
          obtain ⟨k, hk, hv⟩ := hv
          split at hv
          · rename_i hc
            obtain ⟨ho, hcz, hfit⟩ := hc
            simp only [Option.some.injEq, Prod.mk.injEq] at hv
            obtain ⟨rfl, rfl⟩ := hv
            obtain ⟨g0, d0, m0, cur, e2, fr, k1, k2, k3, k4, k5⟩ := h.live b k hk
            obtain ⟨rfl, hbase⟩ := k4 ho
            -- the block that is spent, its cells rewritten behind what stays
            have spend := fun (arr : Array Value) (hcell : ∀ (j : Nat) v, (k.cells.take (o + len * i.size))[j]? = some v → ∃ v', arr[d0 + j]? = some v' ∧ LRel s v v') (hm : d0 + m0 ≤ arr.size) =>
              rewrite_rel h hk ho k1 (k.cells.take (o + len * i.size)) arr false hcell hm
            rcases vrel_slice ra with ⟨b1, g, d, m, off, c', hA, hσ, hcap, hce, hlim, rfl⟩ | ⟨a', hl0, _, rfl⟩
            · cases hA
              rw [k1] at hσ; cases hσ
              rw [hcz] at hlim
              by_cases hroom : len + n ≤ c'
              · -- in place
                have hfit2 : o + d0 + len * i.size + xs'.length ≤ cur.size := by
                  rw [hxl']
                  have h5 : (len + n) * i.size ≤ c' * i.size := Nat.mul_le_mul_right _ hroom
                  rw [Nat.add_mul] at h5
                  omega
                have hrun := run_append_place (P := P) (w := w) t ty e i ht hi g0 (o + d0) len c' cur e2 k2 ad n cx xs' hxl' hread (all2_one rxs) hroom hfit2
                have hnewget : ∀ q, (List.take (o + d0 + len * i.size) cur.toList ++ xs' ++ List.drop (o + d0 + len * i.size + xs'.length) cur.toList).toArray[q]? =
                    if o + d0 + len * i.size ≤ q ∧ q < o + d0 + len * i.size + xs'.length then xs'[q - (o + d0 + len * i.size)]? else cur[q]? := by
                  intro q
                  have := putCells_get cur.toList (o + d0 + len * i.size) xs' (by simpa using hfit2) q
                  simpa [putCells] using this
                have hnewsize : (List.take (o + d0 + len * i.size) cur.toList ++ xs' ++ List.drop (o + d0 + len * i.size + xs'.length) cur.toList).toArray.size = cur.size := by
                  have := putCells_length cur.toList (o + d0 + len * i.size) xs' (by simpa using hfit2)
                  simpa [putCells] using this
                generalize hnew : (List.take (o + d0 + len * i.size) cur.toList ++ xs' ++ List.drop (o + d0 + len * i.size + xs'.length) cur.toList).toArray = new at hrun hnewget hnewsize
                clear hnew
                obtain ⟨r1, r2⟩ := spend new (fun j v hj => by
                  rw [List.getElem?_take] at hj
                  split at hj
                  · obtain ⟨v', h5, h6⟩ := k3 j v hj
                    exact ⟨v', by rw [hnewget, if_neg (by omega)]; exact h5, h6⟩
                  · simp at hj) (by rw [hnewsize]; exact k5)
                have hcap0 : (len + n) * i.size ≤ c' * i.size := Nat.mul_le_mul_right _ hroom
                have hom : o ≤ m0 := by omega
                have hsole : ∀ b' k' (p' : Nat × Nat × Nat), b' ≠ b → ((H.kill k.par).put b ⟨k.cells.take (o + len * i.size), false, none⟩).get b' = some k' → s b' = some p' → p'.1 ≠ g0 := by
                  intro b' k' p' hne hb' hp'
                  simp only [Heap.put] at hb'
                  rw [if_neg hne] at hb'
                  obtain ⟨h5, h6⟩ := kill_get _ _ hb'
                  rcases h.sep b k b' k' (Ne.symm hne) hk ho h5 _ p' k1 hp' with h7 | h7
                  · exact fun e1 => h7 e1.symm
                  · exact absurd h7 h6
                have hbget : ((H.kill k.par).put b ⟨k.cells.take (o + len * i.size), false, none⟩).get b = some ⟨k.cells.take (o + len * i.size), false, none⟩ := by simp [Heap.put]
                have hsh := share_rel r1 hbget rfl k1 hom ((k.cells.drop o).take (len * i.size) ++ xs) (setRow_get_same k2 new) hbase (fun j v hj => by
                  rw [List.getElem?_append] at hj
                  have hlen1 : ((k.cells.drop o).take (len * i.size)).length = len * i.size := by simp; omega
                  rw [hlen1] at hj
                  split at hj
                  · rename_i hjl
                    rw [List.getElem?_take, if_pos hjl, List.getElem?_drop] at hj
                    obtain ⟨v', h5, h6⟩ := k3 (o + j) v hj
                    exact ⟨v', by rw [hnewget, if_neg (by omega), ← h5]; congr 1; omega, h6⟩
                  · rename_i hjl
                    obtain ⟨v', h5, h6⟩ := rxs.get hj
                    have := (List.getElem?_eq_some_iff.1 h5).1
                    exact ⟨v', by rw [hnewget, if_pos (by omega), ← h5]; congr 1; omega, h6⟩) (by rw [hnewsize]; exact k5) hsole
                obtain ⟨q1, q2, q3⟩ := hsh
                have hnext : ((H.kill k.par).put b ⟨k.cells.take (o + len * i.size), false, none⟩).next = H.next := by simp [Heap.put, kill_next]
                rw [hnext] at q1 q2 q3
                refine ⟨_, _, _, hrun, ?_, q1, ?_⟩
                · have := mkS_rel (s := s.add H.next (g0, d0 + o, m0 - o)) (c := i.size) (Sig.add_at H.next (g0, d0 + o, m0 - o)) hroom (.inl (by omega)) (by rw [Nat.mod_eq_of_lt h64]; omega)
                  have e5 : (⟨g0, d0 + o, none⟩ : Addr) = ⟨g0, o + d0, none⟩ := by rw [Nat.add_comm]
                  rw [e5] at this; exact this
                · refine ⟨q2, r2.os, r2.tape, r2.output, r2.size, r2.frame, fun b' k' p' h5 h6 h7 => ?_⟩
                  rcases q3 b' k' p' h5 h6 h7 with h8 | ⟨h8, h9⟩
                  · right; exact ⟨b, k, _, hk, ho, k1, h8.symm⟩
                  · exact r2.own b' k' p' h8 h6 h9
              · -- it grows
                have hl : ((cur.toList.drop (o + d0)).take (len * i.size)).length = len * i.size ∧ All2 (LRel s) ((k.cells.drop o).take (len * i.size)) ((cur.toList.drop (o + d0)).take (len * i.size)) := by
                  have hrd : rdH H b o (len * i.size) = some ((k.cells.drop o).take (len * i.size)) := by simp [rdH, hk, hfit]
                  obtain ⟨c2, e3, fr3, h5, h6, h7⟩ := rd_rel h hrd k1
                  rw [k2] at h5; cases h5
                  exact ⟨by rw [← h6.1, h7], h6⟩
                obtain ⟨hl, ro⟩ := hl
                have hcells := (run_rd (P := P) k2 _ hl).1
                have hrun := run_append_grow (P := P) w t ty e i zv ht hi hzv ⟨g0, o + d0, none⟩ len c' _ hl hcells ad n cx xs' hxl' hread (by omega) (by omega) (growslice_fits (by omega) (small _ hs))
                obtain ⟨r1, r2⟩ := spend cur (fun j v hj => by
                  rw [List.getElem?_take] at hj
                  split at hj
                  · exact k3 j v hj
                  · simp at hj) k5
                rw [setRow_self k2] at r1 r2
                obtain ⟨h2, h3⟩ := push_more (r1.drew) ((k.cells.drop o).take (len * i.size) ++ xs) ((cur.toList.drop (o + d0)).take (len * i.size) ++ xs') (Builtin.zeroCells zv.cells (grownCap w (len + n) c' e - (len + n))) e (ro.append rxs) (((cur.toList.drop (o + d0)).take (len * i.size)).toArray ++ xs'.toArray ++ Builtin.zeroCells zv.cells (grownCap w (len + n) c' e - (len + n))) (by simp)
                have hnext : ((H.kill k.par).put b ⟨k.cells.take (o + len * i.size), false, none⟩).next = H.next := by simp [Heap.put, kill_next]
                rw [hnext] at h2 h3
                obtain ⟨h4, h5⟩ := setPar (some b) h2 (r2.drew.trans h3)
                refine ⟨_, _, _, hrun, ?_, h4, h5⟩
                refine mkS_rel (Sig.add_at _ _) (grownCap_ge w _ _ e) (.inl (by omega)) ?_
                rw [Nat.mod_eq_of_lt h64]
                simp only [Array.size_append, List.size_toArray, size_zeroCells, hzl, hxl', hl, ← Nat.add_mul]
                exact Nat.le_of_eq (by congr 1; have := grownCap_ge w (len + n) c' e; omega)
            · -- no room at all
              subst hl0
              have hrun := run_append_grow (P := P) w t ty e i zv ht hi hzv a' 0 0 [] (by simp) (by simp) ad n cx xs' hxl' hread (by omega) (by omega) (growslice_fits (by omega) (small _ (by omega)))
              obtain ⟨r1, r2⟩ := spend cur (fun j v hj => by
                  rw [List.getElem?_take] at hj
                  split at hj
                  · exact k3 j v hj
                  · simp at hj) k5
              rw [setRow_self k2] at r1 r2
              obtain ⟨h2, h3⟩ := push_more (r1.drew) xs xs' (Builtin.zeroCells zv.cells (grownCap w (0 + n) 0 e - (0 + n))) e rxs (#[] ++ xs'.toArray ++ Builtin.zeroCells zv.cells (grownCap w (0 + n) 0 e - (0 + n))) (by simp)
              have hnext : ((H.kill k.par).put b ⟨k.cells.take (o + 0 * i.size), false, none⟩).next = H.next := by simp [Heap.put, kill_next]
              rw [hnext] at h2 h3
              obtain ⟨h4, h5⟩ := setPar (some b) h2 (r2.drew.trans h3)
              refine ⟨_, _, _, hrun, ?_, by simpa using h4, by simpa using h5⟩
              refine mkS_rel (Sig.add_at _ _) (grownCap_ge w _ _ e) (.inl (by omega)) ?_
              rw [Nat.mod_eq_of_lt h64]
              simp only [Array.size_append, List.size_toArray, size_zeroCells, hzl, hxl', List.length_nil, ← Nat.add_mul]
              exact Nat.le_of_eq (by have := grownCap_ge w (0 + n) 0 e; simp at this ⊢; congr 1; omega)
          · simp at hv
      · simp at hv
  · simp at hv
end
end Go.Ab

namespace Go.Ab
open Go

section
variable {P : Program} {base nG : Nat} {s : Sig} {H : Heap} {w : World}

theorem push_same (h : HRel base nG s H w) (xs : List Value) (arr : Array Value) (e : TypeId) (r : All2 (LRel s) xs arr.toList) :
    HRel base nG (s.add H.next (w.heap.size, 0, arr.size)) (H.push ⟨xs, true, none⟩) (w.alloc (.cells arr e)) ∧
    Ext s H w (s.add H.next (w.heap.size, 0, arr.size)) (H.push ⟨xs, true, none⟩) (w.alloc (.cells arr e)) := by
  refine push_rel h xs arr e fun j v hj => ?_
  obtain ⟨v', h1, h2⟩ := r.get hj
  exact ⟨v', by simpa using h1, h2⟩
theorem ptr_new {n g m : Nat} : VRel (s.add n (g, 0, m)) (.pointer (some ⟨n, 0, none⟩)) (.pointer (some ⟨g, 0, none⟩)) := by
  have := PRel.ptr (s := s.add n (g, 0, m)) n g 0 m 0 (Sig.add_at _ _)
  exact .one (.one (.base this))
theorem repl_eq (n : Nat) (z : Array Value) (hz : 0 < z.size) : ((Array.range (n * z.size)).map fun i => z[i % z.size]!).toList = replA n z.toList := by
  unfold replA
  simp only [Array.toList_map, Array.toList_range, Array.length_toList]
  apply List.map_congr_left
  intro i _
  have : i % z.size < z.size := Nat.mod_lt _ hz
  simp [List.getD, this, getElem!_def]
theorem repl_plain (n : Nat) (z : List Value) (hz : z.all plainL = true) (h0 : 0 < z.length) : (replA n z).all plainL = true := by
  unfold replA
  simp only [List.all_map, List.all_eq_true, List.mem_range, Function.comp_apply]
  intro i _
  have : i % z.length < z.length := Nat.mod_lt _ h0
  rw [List.getD_eq_getElem?_getD, List.getElem?_eq_getElem this]
  exact (List.all_eq_true.1 hz) _ (List.getElem_mem _)
theorem repl_length (n : Nat) (z : List Value) : (replA n z).length = n * z.length := by simp [replA]

theorem zeroCells_eq (z : Array Value) (n : Nat) (hz : 0 < z.size) : (Builtin.zeroCells z n).toList = replA n z.toList := repl_eq n z hz

set_option maxHeartbeats 4000000 in
theorem mem_sound (h : HRel base nG s H w) {ρ ρ' : Operand → Value} {o : Oper} (hr : RelX P.globals.size s ρ ρ' o.op) {ao : AOp} {v : Value} {H' : Heap} (hf : flatOp P o.op o.type = some ao) (hm : memA ao ρ H = some (v, H')) :
    ∃ v' s' w' r, (execOp ρ' o).run P w = .ok r w' ∧ (r = .value v' ∨ (r = .skip ∧ v' = undef)) ∧ VRel s' v v' ∧ HRel base nG s' H' w' ∧ Ext s H w s' H' w' := by
  obtain ⟨dst, op, type, pos, after, guard⟩ := o
  simp only at hf
  unfold flatOp at hf
  by_cases hall : op.operands.all (okX P.globals.size) = true
  case neg => rw [if_neg hall] at hf; simp at hf
  rw [if_pos hall] at hf
  have hops := all_ops hall hr
  clear hall
  cases op with
  | load t a =>
    simp only [Option.map_eq_some_iff] at hf
    obtain ⟨n, hn, rfl⟩ := hf
    simp only [memA, Option.map_eq_some_iff, Prod.mk.injEq] at hm
    obtain ⟨u, hu, rfl, rfl⟩ := hm
    obtain ⟨v', r, hrun⟩ := ld_sound (P := P) h hn hu (hops a (by simp [Op.operands]))
    exact ⟨v', s, w, _, by simp only [execOp, Sem.run_bind, hrun, Result.andThen_ok, Sem.run_pure], .inl rfl, r, h, Ext.refl ..⟩
  | store t a x =>
    simp only [Option.map_eq_some_iff] at hf
    obtain ⟨n, hn, rfl⟩ := hf
    simp only [memA, Option.map_eq_some_iff, Prod.mk.injEq] at hm
    obtain ⟨H2, hu, rfl, rfl⟩ := hm
    obtain ⟨w', hrun, h1, h2⟩ := st_sound (P := P) h hn hu (hops a (by simp [Op.operands])) (hops x (by simp [Op.operands]))
    exact ⟨undef, s, w', _, by simp only [execOp, Sem.run_bind, hrun, Result.andThen_ok, Sem.run_pure], .inr ⟨rfl, rfl⟩, vrel_of_plain (by simp [undef, plainV]), h1, h2⟩
  | box t x =>
    simp only [Option.some.injEq] at hf; subst hf
    simp only [memA] at hm
    split at hm
    · rename_i ht
      simp only [Option.some.injEq, Prod.mk.injEq] at hm
      obtain ⟨rfl, rfl⟩ := hm
      obtain ⟨hc, _⟩ := vrel_cells (hops x (by simp [Op.operands])) ht
      obtain ⟨h1, h2⟩ := push_same h (cellsV (ρ x)) (ρ' x).cells t hc
      exact ⟨_, _, _, _, by simp [execOp, Instr.box, newVar, newRow], .inl rfl, ptr_new, h1, h2⟩
    · simp at hm
  | alloc t =>
    simp only [Option.map_eq_some_iff] at hf
    obtain ⟨z, hz, rfl⟩ := hf
    simp only [memA, Option.some.injEq, Prod.mk.injEq] at hm
    obtain ⟨rfl, rfl⟩ := hm
    obtain ⟨it, zv, hit, hzv, rfl, hzp⟩ := zeroT_some hz
    obtain ⟨h1, h2⟩ := push_same h zv.cells.toList zv.cells t (all2_of_plain hzp)
    exact ⟨_, _, _, _, by simp [execOp, Instr.alloc, newVar, newRow, zeroValue, typeInfo, hit, hzv], .inl rfl, ptr_new, h1, h2⟩
  | buildSlice t len ps =>
    simp only at hf
    split at hf
    · rename_i e hd
      simp only [Option.bind_eq_some_iff] at hf
      obtain ⟨n, hn, z, hz, hf⟩ := hf
      split at hf
      · rename_i hc
        obtain ⟨rfl, hpos, h64, hbig⟩ := hc
        simp only [Option.some.injEq] at hf; subst hf
        simp only [memA, Option.map_eq_some_iff, Prod.mk.injEq] at hm
        obtain ⟨cs, hcs, rfl, rfl⟩ := hm
        obtain ⟨it, zv, hit, hzv, rfl, hzp⟩ := zeroT_some hz
        have hvals : ∀ (p : Nat × Operand), p ∈ ps.toList → VRel s (ρ p.2) (ρ' p.2) := fun p hp => hops p.2 (by simp only [Op.operands]; exact List.mem_toArray.2 (List.mem_map_of_mem hp))
        obtain ⟨out, ho, hfill⟩ := fill_sound (s := s) (fun i => some (i * zv.cells.toList.length, zv.cells.toList.length)) (ρ := ρ) (ρ' := ρ') ps.toList (ps.toList.map fun p => (p.1 * zv.cells.toList.length, zv.cells.toList.length, p.2))
          (replA len zv.cells.toList) (replA len zv.cells.toList) (by simp)
          (fun i p q h1 h2 => by
            simp only [List.getElem?_map, h1, Option.map_some, Option.some.injEq] at h2
            subst h2
            exact ⟨rfl, rfl, hvals p (List.mem_of_getElem? h1)⟩)
          (all2_of_plain (repl_plain _ _ hzp hpos)) cs hcs
        obtain ⟨h1, h2⟩ := push_same h cs out.toArray e (by simpa using ho)
        have hlen : out.length = len * zv.cells.size := by
          have : ∀ (ps : List (Nat × Nat × Operand)) (a b : List Value), fillA ρ ps a = some b → b.length = a.length := by
            intro ps
            induction ps with
            | nil => intro a b hab; simp [fillA] at hab; rw [hab]
            | cons p ps ih =>
              intro a b hab
              obtain ⟨p1, p2, p3⟩ := p
              simp only [fillA] at hab
              split at hab
              · rename_i hc
                rw [ih _ _ hab, putCells_length _ _ _ (by omega)]
              · simp at hab
          rw [← ho.1, this _ _ _ hcs, repl_length]; simp
        refine ⟨.slice (some ⟨w.heap.size, 0, none⟩) len len, _, _, .value _, ?_, .inl rfl, ?_, h1, h2⟩
        · have h3 := fun w => run_sizeOf (P := P) hn w
          have hpos' : 0 < zv.cells.size := by simpa using hpos
          have hrep := repl_eq len zv.cells hpos'
          have harr : (Array.range (len * zv.cells.size)).map (fun i => zv.cells[i % zv.cells.size]!) = (replA len zv.cells.toList).toArray := by
            apply Array.ext'; rw [hrep]
          simp only [Array.length_toList] at h3 hfill hbig
          have hbig' : ¬ (16777216 < len * zv.cells.size) := by omega
          by_cases h0 : len * zv.cells.size = 0
          · have e0 : (replA len zv.cells.toList) = [] := List.eq_nil_of_length_eq_zero (by rw [repl_length]; simpa using h0)
            have hfill' : Instr.fill (fun i => some (i * zv.cells.size, zv.cells.size)) #[] (List.map (fun p => (p.1, ρ' p.2)) ps.toList) = some out.toArray := by
              rw [e0] at hfill; simpa using hfill
            have hz0 : ∀ f : Nat → Value, Array.map f (Array.range 0) = #[] := fun f => by apply Array.ext'; simp
            simp [execOp, Instr.buildSlice, run_underlying hd, h3, h0, newRow, hz0]
            rw [hfill']; simp
          · have hfill' : Instr.fill (fun i => some (i * zv.cells.size, zv.cells.size)) ((Array.range (len * zv.cells.size)).map (fun i => zv.cells[i % zv.cells.size]!)) (List.map (fun p => (p.1, ρ' p.2)) ps.toList) = some out.toArray := by
              rw [harr]; simpa using hfill
            simp [execOp, Instr.buildSlice, run_underlying hd, h3, h0, hbig', newRow, zeroValue, typeInfo, hit, hzv]
            rw [hfill']; simp
        · refine mkS_rel (Sig.add_at _ _) (Nat.le_refl _) (.inr (by simp at h64 ⊢; omega)) ?_
          simp at h64
          rw [show ((2 * len + 1) * 64 + zv.cells.toList.length) % 64 = zv.cells.size by simp; omega]
          simp [hlen]
      · simp at hf
    · simp at hf
  | makeSlice t l c =>
    simp only at hf
    split at hf
    · rename_i e hd
      simp only [Option.bind_eq_some_iff] at hf
      obtain ⟨i, hi, z, hz, hf⟩ := hf
      split at hf
      · rename_i hc
        obtain ⟨hsz, hpos, h64⟩ := hc
        simp only [Option.some.injEq] at hf; subst hf
        simp only [memA, msA] at hm
        have hl := hops l (by simp [Op.operands])
        have hcc := hops c (by simp [Op.operands])
        split at hm
        · rename_i k1 ln k2 cn e1 e2
          rw [e1] at hl; rw [e2] at hcc
          have e3 := vrel_plain hl rfl
          have e4 := vrel_plain hcc rfl
          split at hm
          · rename_i hb
            obtain ⟨b1, b2, b3, b4⟩ := hb
            simp only [Option.some.injEq, Prod.mk.injEq] at hm
            obtain ⟨rfl, rfl⟩ := hm
            obtain ⟨it, zv, hit, hzv, rfl, hzp⟩ := zeroT_some hz
            rw [hi] at hit; obtain rfl := Option.some.inj hit
            simp only [Array.length_toList] at hsz
            have hpos' : 0 < zv.cells.size := by omega
            have w1 : IntKind.i64.wrap ln = ln := by simp [IntKind.wrap, IntKind.bits, IntKind.signed]; omega
            have w2 : IntKind.i64.wrap cn = cn := by simp [IntKind.wrap, IntKind.bits, IntKind.signed]; omega
            have hrep := repl_eq cn.toNat zv.cells hpos'
            obtain ⟨h1, h2⟩ := push_same h (replA cn.toNat zv.cells.toList) ((Array.range (cn.toNat * zv.cells.size)).map (fun i => zv.cells[i % zv.cells.size]!)) e (by rw [hrep]; exact all2_of_plain (repl_plain _ _ hzp (by simpa using hpos')))
            refine ⟨.slice (some ⟨w.heap.size, 0, none⟩) ln.toNat cn.toNat, _, _, .value _, ?_, .inl rfl, ?_, h1, h2⟩
            · have hb4 : ¬ (281474976710656 < (i.bytes : Int) * cn) := by rw [Int.mul_comm]; omega
              have c1 : ¬ (cn < 0) := by omega
              have c2 : ¬ (ln < 0) := by omega
              have c3 : ¬ (cn < ln) := by omega
              by_cases h0 : cn.toNat = 0
              · have hz0 : ∀ f : Nat → Value, Array.map f (Array.range 0) = #[] := fun f => by apply Array.ext'; simp
                simp [execOp, Instr.makeSlice, run_underlying hd, asInt, asIntOf, e3, e4, typeInfo, hi, w1, w2, c1, c2, c3, hb4, sizeOf, newRow, h0, hz0]
              · have h0' : ¬ (cn.toNat = 0 ∨ zv.cells.size = 0) := by omega
                simp [execOp, Instr.makeSlice, run_underlying hd, asInt, asIntOf, e3, e4, typeInfo, hi, w1, w2, c1, c2, c3, hb4, sizeOf, newRow, hsz, h0', zeroValue, hzv]
                intro h9; exact absurd h9 (Nat.mul_ne_zero h0 (by omega))
            · refine mkS_rel (Sig.add_at _ _) (by omega) (.inr (by omega)) ?_
              rw [show ((2 * cn.toNat + 1) * 64 + i.size) % 64 = i.size by omega]
              simp [hsz]
          · simp at hm
        · simp at hm
      · simp at hf
    · simp at hf
  | call c =>
    obtain ⟨callee, args, argTypes⟩ := c
    cases callee with
    | value f =>
      cases f with
      | func f =>
        simp only at hf
        split at hf
        · simp only [Option.some.injEq] at hf; subst hf
          simp [memA] at hm
        · cases hf
      | tmp f => simp at hf
      | const f => simp at hf
      | global f => simp at hf
    | invoke r m => simp at hf
    | builtin b =>
      have hargs : All2 (VRel s) (args.toList.map ρ) (args.toList.map ρ') := All2.of_fun _ fun x hx => hops x (by simp [Op.operands, Call.operands]; simpa using hx)
      cases b with
      | append =>
        simp only at hf
        split at hf
        · rename_i sl x t u hargsl htys
          split at hf
          · rename_i htu; subst htu
            split at hf
            · rename_i e hd
              simp only [Option.bind_eq_some_iff] at hf
              obtain ⟨i, hi, z, hz, hf⟩ := hf
              split at hf
              · rename_i hc
                simp only [Option.some.injEq] at hf; subst hf
                rw [hargsl] at hargs
                obtain ⟨v', s', w', hrun, r1, r2, r3⟩ := app_sound (P := P) (ty := type) h hd hi hz hc.1 hc.2.1 hc.2.2.1 hc.2.2.2 (by simpa [memA] using hm) (hargs.2 0 (ρ sl) (ρ' sl) rfl rfl) (hargs.2 1 (ρ x) (ρ' x) rfl rfl)
                refine ⟨v', s', w', .value v', ?_, .inl rfl, r1, r2, r3⟩
                have ea : args.map ρ' = #[ρ' sl, ρ' x] := by apply Array.ext'; simp [hargsl]
                have et : argTypes = #[t, t] := by apply Array.ext'; simp [htys]
                simp [execOp, resolve, invoke, builtin, ea, et, hrun]
              · simp at hf
            · simp at hf
          · simp at hf
        · simp at hf
      | clear =>
        simp only at hf
        split at hf
        · rename_i x e hargsl hty
          simp only [Option.bind_eq_some_iff] at hf hty
          obtain ⟨z, hz, n, hn, hf⟩ := hf
          obtain ⟨t, ht, hd⟩ := hty
          split at hf
          · rename_i hc
            simp only [Option.some.injEq] at hf; subst hf
            rw [hargsl] at hargs
            have hx := hargs.2 0 (ρ x) (ρ' x) rfl rfl
            obtain ⟨it, zv, hit, hzv, rfl, hzp⟩ := zeroT_some hz
            simp only [memA, Option.map_eq_some_iff, Prod.mk.injEq] at hm
            obtain ⟨H2, hcl, rfl, rfl⟩ := hm
            have ea : args.map ρ' = #[ρ' x] := by apply Array.ext'; simp [hargsl]
            have key : ∃ w', (Builtin.clear_ argTypes type #[ρ' x]).run P w = .ok (.tuple #[]) w' ∧ HRel base nG s H2 w' ∧ Ext s H w s H2 w' := by
              unfold clrA at hcl
              split at hcl
              · rename_i e1
                rw [e1] at hx
                have e2 := vrel_plain hx rfl
                simp only [Option.some.injEq] at hcl; subst hcl
                exact ⟨w, by simp [Builtin.clear_, ht, e2, run_underlying hd], h, Ext.refl ..⟩
              · rename_i b o n' c e1
                rw [e1] at hx
                split at hcl
                · rename_i h0; subst h0
                  simp only [Option.some.injEq] at hcl; subst hcl
                  refine ⟨w, ?_, h, Ext.refl ..⟩
                  rcases vrel_slice hx with ⟨b1, g, d, m, off, c', hA, hσ, hcap, hce, _, ex⟩ | ⟨a', hn0, _, ex⟩
                  · simp [Builtin.clear_, ht, ex, run_underlying hd]
                  · simp [Builtin.clear_, ht, ex, run_underlying hd]
                · rename_i h0
                  rcases vrel_slice hx with ⟨b1, g, d, m, off, c', hA, hσ, hcap, hce, _, ex⟩ | ⟨a', hn0, _, ex⟩
                  · cases hA
                    have hpos : 0 < zv.cells.size := by have := hc.2; have := hc.1; simp at this; omega
                    obtain ⟨w', h1, h2, h3⟩ := wr_sound (P := P) h hcl (all2_of_plain (s := s) (repl_plain n' _ hzp (by simpa using hpos))) hσ
                    refine ⟨w', ?_, h2, h3⟩
                    have h4 : (Builtin.zeroCells zv.cells n').toList = replA n' zv.cells.toList := zeroCells_eq _ _ hpos
                    obtain ⟨n'', rfl⟩ : ∃ q, n' = q + 1 := ⟨n' - 1, by omega⟩
                    simp [Builtin.clear_, ht, ex, run_underlying hd, zeroValue, typeInfo, hit, hzv, h4, h1]
                  · omega
              · simp at hcl
            obtain ⟨w', h1, h2, h3⟩ := key
            exact ⟨.tuple #[], s, w', .value (.tuple #[]), by simp [execOp, resolve, invoke, builtin, ea, h1], .inl rfl, vrel_of_plain (by simp [plainV]), h2, h3⟩
          · simp at hf
        · simp at hf
      | len =>
        simp only at hf
        split at hf
        · simp only [Option.some.injEq] at hf; subst hf; simp [memA] at hm
        · simp only [Option.some.injEq] at hf; subst hf; simp [memA] at hm
        · simp at hf
      | max => simp only [Option.some.injEq] at hf; subst hf; simp [memA] at hm
      | min => simp only [Option.some.injEq] at hf; subst hf; simp [memA] at hm
      | real => simp only at hf; split at hf <;> simp at hf; subst hf; simp [memA] at hm
      | imag => simp only at hf; split at hf <;> simp at hf; subst hf; simp [memA] at hm
      | complex => simp only at hf; split at hf <;> simp at hf; subst hf; simp [memA] at hm
      | _ => simp at hf
  | move x => simp only [Option.some.injEq] at hf; subst hf; simp [memA] at hm
  | assign x => simp only [Option.some.injEq] at hf; subst hf; simp [memA] at hm
  | pick a b c => simp only [Option.some.injEq] at hf; subst hf; simp [memA] at hm
  | binOp op t x y yt =>
    exfalso
    simp only at hf
    split at hf
    · split at hf
      · split at hf
        · simp only [Option.some.injEq] at hf; subst hf; simp [memA] at hm
        · split at hf
          · simp only [Option.some.injEq] at hf; subst hf; simp [memA] at hm
          · split at hf <;> first | (simp only [Option.some.injEq] at hf; subst hf; simp [memA] at hm; done) | (simp at hf; done)
      · simp at hf
    · simp only [Option.some.injEq] at hf; subst hf; simp [memA] at hm
  | unOp op t x => simp only [Option.some.injEq] at hf; subst hf; simp [memA] at hm
  | convert a b x =>
    simp only at hf
    split at hf <;> first | (simp only [Option.some.injEq] at hf; subst hf; simp [memA] at hm; done) | (simp at hf; done)
  | nilCheck x => simp only [Option.some.injEq] at hf; subst hf; simp [memA] at hm
  | fieldAddr t x f =>
    simp only at hf
    split at hf
    · simp only [Option.bind_eq_some_iff] at hf
      obtain ⟨_, _, _, _, hf⟩ := hf
      split at hf
      · simp at hf
      · simp only [Option.some.injEq] at hf; subst hf; simp [memA] at hm
    · simp at hf
  | indexAddr t x i =>
    simp only at hf
    split at hf
    · simp only [Option.map_eq_some_iff] at hf; obtain ⟨_, _, rfl⟩ := hf; simp [memA] at hm
    · simp only [Option.map_eq_some_iff] at hf; obtain ⟨_, _, rfl⟩ := hf; simp [memA] at hm
    · simp at hf
  | slice t x lo hi mx =>
    simp only at hf
    split at hf
    · simp only [Option.map_eq_some_iff] at hf; obtain ⟨_, _, rfl⟩ := hf; simp [memA] at hm
    · split at hf
      · simp at hf
      · simp only [Option.some.injEq] at hf; subst hf; simp [memA] at hm
    · simp at hf
  | field t x f =>
    simp only at hf
    split at hf
    · simp only [Option.bind_eq_some_iff, Option.map_eq_some_iff] at hf; obtain ⟨_, _, _, _, rfl⟩ := hf; simp [memA] at hm
    · simp at hf
  | index t x i =>
    simp only at hf
    split at hf
    · simp only [Option.some.injEq] at hf; subst hf; simp [memA] at hm
    · simp only [Option.bind_eq_some_iff, Option.map_eq_some_iff] at hf; obtain ⟨_, _, _, _, rfl⟩ := hf; simp [memA] at hm
    · simp at hf
  | extract x i => simp only [Option.some.injEq] at hf; subst hf; simp [memA] at hm
  | makeFunc fn xs ys =>
    cases fn with
    | func f => simp only [Option.some.injEq] at hf; subst hf; simp [memA] at hm
    | _ => simp at hf
  | makeInterface t x =>
    simp only at hf
    split at hf
    · simp at hf
    · simp only [Option.some.injEq] at hf; subst hf; simp [memA] at hm
    · simp at hf
  | build t ps =>
    simp only at hf
    split at hf
    · simp only [Option.bind_eq_some_iff, Option.map_eq_some_iff] at hf; obtain ⟨_, _, _, _, _, _, rfl⟩ := hf; simp [memA] at hm
    · simp only [Option.bind_eq_some_iff, Option.map_eq_some_iff] at hf; obtain ⟨_, _, _, _, rfl⟩ := hf; simp [memA] at hm
    · simp at hf
  | _ => simp at hf
end
end Go.Ab
