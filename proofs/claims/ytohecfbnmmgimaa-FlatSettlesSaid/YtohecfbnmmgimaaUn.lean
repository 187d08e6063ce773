/- The kinds of elements of this seat's slices, and the first configuration of the interpreter. Conditions: none. -/
import Derived.Test.YtohecfbnmmgimaaNames
namespace Go.Proofs.Ytohecfbnmmgimaa
open Go.Vm Go.RowKit
set_option linter.unusedVariables false
structure Ent where
  Angle : Int
  Num : Int
  Den : Int
theorem Ent.ext_ {a b : Ent} (h0 : a.Angle = b.Angle) (h1 : a.Num = b.Num) (h2 : a.Den = b.Den) : a = b := by
  cases a; cases b; simp_all
instance : Inhabited Ent := ⟨⟨default, default, default⟩⟩
structure Rect where
  X : Int
  Y : Int
  W : Int
  H : Int
theorem Rect.ext_ {a b : Rect} (h0 : a.X = b.X) (h1 : a.Y = b.Y) (h2 : a.W = b.W) (h3 : a.H = b.H) : a = b := by
  cases a; cases b; simp_all
instance : Inhabited Rect := ⟨⟨default, default, default, default⟩⟩
structure Bend where
  Flange : Int
  Parent : Int
  Line_X1 : Int
  Line_Y1 : Int
  Line_X2 : Int
  Line_Y2 : Int
  Angle : Int
  Deduct : Int
theorem Bend.ext_ {a b : Bend} (h0 : a.Flange = b.Flange) (h1 : a.Parent = b.Parent) (h2 : a.Line_X1 = b.Line_X1) (h3 : a.Line_Y1 = b.Line_Y1) (h4 : a.Line_X2 = b.Line_X2) (h5 : a.Line_Y2 = b.Line_Y2) (h6 : a.Angle = b.Angle) (h7 : a.Deduct = b.Deduct) : a = b := by
  cases a; cases b; simp_all
instance : Inhabited Bend := ⟨⟨default, default, default, default, default, default, default, default⟩⟩

inductive Knd where
  | ent
  | rect
  | bend
  | int
  | bool
  | rects
  | bools
def Knd.num : Knd → Nat
  | .ent => 0
  | .rect => 1
  | .bend => 2
  | .int => 3
  | .bool => 4
  | .rects => 5
  | .bools => 6
theorem Knd.num_inj : ∀ {a b : Knd}, a.num = b.num → a = b := by
  intro a b h; cases a <;> cases b <;> first | rfl | cases h
def Knd.deq (a b : Knd) : Decidable (a = b) := if h : a.num = b.num then .isTrue (Knd.num_inj h) else .isFalse fun e => h (by rw [e])
abbrev UU : Univ where
  τ := Knd
  deq := Knd.deq
  T := fun k => match k with
    | .ent => Ent
    | .rect => Rect
    | .bend => Bend
    | .int => Int
    | .bool => Bool
    | .rects => List Rect
    | .bools => List Bool
  ety := fun k => match k with
    | .ent => 52
    | .rect => 30
    | .bend => 60
    | .int => 3
    | .bool => 4
    | .rects => 22
    | .bools => 86
  size := fun k => match k with
    | .ent => 3
    | .rect => 4
    | .bend => 8
    | .int => 1
    | .bool => 1
    | .rects => 1
    | .bools => 1
def encU : (t : Knd) → UU.T t → List (AVal UU)
  | .ent, x => [.int .i64 (Ent.Angle x), .int .i64 (Ent.Num x), .int .i64 (Ent.Den x)]
  | .rect, x => [.int .i64 (Rect.X x), .int .i64 (Rect.Y x), .int .i64 (Rect.W x), .int .i64 (Rect.H x)]
  | .bend, x => [.int .i64 (Bend.Flange x), .int .i64 (Bend.Parent x), .int .i64 (Bend.Line_X1 x), .int .i64 (Bend.Line_Y1 x), .int .i64 (Bend.Line_X2 x), .int .i64 (Bend.Line_Y2 x), .int .i64 (Bend.Angle x), .int .i64 (Bend.Deduct x)]
  | .int, x => [.int .i64 x]
  | .bool, x => [.bool x]
  | .rects, x => [.sl .rect x]
  | .bools, x => [.sl .bool x]
/-- The elements of a slice of a kind. -/
def slOf (t : Knd) : AVal UU → Option (List (UU.T t))
  | .sl t2 ys => castRow (U := UU) t t2 ys
  | .nils => some []
  | _ => none
theorem slOf_spec {t : Knd} {y : AVal UU} {zs : List (UU.T t)} (h : slOf t y = some zs) : y = .sl t zs ∨ (y = .nils ∧ zs = []) := by
  unfold slOf at h
  split at h
  · rename_i t2 ys
    obtain ⟨rfl, rfl⟩ := castRow_spec h
    exact .inl rfl
  · cases h
    exact .inr ⟨rfl, rfl⟩
  · cases h
def decU : (t : Knd) → List (AVal UU) → Option (UU.T t)
  | .ent, [.int .i64 x0, .int .i64 x1, .int .i64 x2] => some ⟨x0, x1, x2⟩
  | .rect, [.int .i64 x0, .int .i64 x1, .int .i64 x2, .int .i64 x3] => some ⟨x0, x1, x2, x3⟩
  | .bend, [.int .i64 x0, .int .i64 x1, .int .i64 x2, .int .i64 x3, .int .i64 x4, .int .i64 x5, .int .i64 x6, .int .i64 x7] => some ⟨x0, x1, x2, x3, x4, x5, x6, x7⟩
  | .int, [.int .i64 x0] => some x0
  | .bool, [.bool x0] => some x0
  | .rects, [y0] => (slOf .rect y0).bind fun z0 => some z0
  | .bools, [y0] => (slOf .bool y0).bind fun z0 => some z0
  | _, _ => none
theorem decU_len : ∀ t l x, decU t l = some x → l.length = UU.size t := by
  intro t l x h
  unfold decU at h
  split at h <;> first | rfl | cases h
theorem encU_flat : ∀ t x, ∀ c ∈ encU t x, c.flat = true ∧ c.isCell = true := by
  intro t x c hc
  cases t <;> (unfold encU at hc; simp only [List.mem_cons, List.not_mem_nil, or_false] at hc; first | (rcases hc with rfl | hc <;> first | exact ⟨rfl, rfl⟩ | skip) | (subst hc; exact ⟨rfl, rfl⟩))
  all_goals (repeat (first | (subst hc; exact ⟨rfl, rfl⟩) | (rcases hc with rfl | hc; exact ⟨rfl, rfl⟩)))
theorem decU_enc : ∀ t l x, decU t l = some x → ∀ k, k < UU.size t → (l.getD k .any = (encU t x).getD k .any ∨ (l.getD k .any = .nils ∧ ∃ t', (encU t x).getD k .any = .sl t' [])) := by
  intro t l x h k hk
  unfold decU at h
  split at h
  · cases h; exact .inl rfl
  · cases h; exact .inl rfl
  · cases h; exact .inl rfl
  · cases h; exact .inl rfl
  · cases h; exact .inl rfl
  · simp only [Option.bind_eq_some_iff] at h
    obtain ⟨z0, h0, h⟩ := h
    cases h
    rcases Nat.lt_or_ge k 1 with hk2 | hk2
    · have hh : k = 0 := by omega
      rcases hh with rfl
      · rcases slOf_spec h0 with rfl | ⟨rfl, rfl⟩
        · exact .inl rfl
        · exact .inr ⟨rfl, _, rfl⟩
    · exact absurd hk (Nat.not_lt.2 hk2)
  · simp only [Option.bind_eq_some_iff] at h
    obtain ⟨z0, h0, h⟩ := h
    cases h
    rcases Nat.lt_or_ge k 1 with hk2 | hk2
    · have hh : k = 0 := by omega
      rcases hh with rfl
      · rcases slOf_spec h0 with rfl | ⟨rfl, rfl⟩
        · exact .inl rfl
        · exact .inr ⟨rfl, _, rfl⟩
    · exact absurd hk (Nat.not_lt.2 hk2)
  · cases h
def dfltU : (t : Knd) → UU.T t
  | .ent => (default : Ent)
  | .rect => (default : Rect)
  | .bend => (default : Bend)
  | .int => (default : Int)
  | .bool => (default : Bool)
  | .rects => (default : List Rect)
  | .bools => (default : List Bool)
def plainK : Knd → Bool
  | .ent => true
  | .rect => true
  | .bend => true
  | .int => true
  | .bool => true
  | .rects => false
  | .bools => false
theorem plainK_ok : ∀ t x, plainK t = true → ∀ c ∈ encU t x, c.pure = true := by
  intro t x h c hc
  cases t <;> (first | (cases h; done) | skip) <;> (unfold encU at hc; simp only [List.mem_cons, List.not_mem_nil, or_false] at hc)
  all_goals (repeat (first | (subst hc; rfl) | (rcases hc with rfl | hc; rfl)))
def EE : Enc UU where
  enc := encU
  dec := decU
  dflt := dfltU
  enc_len := fun t x => by cases t <;> rfl
  enc_flat := encU_flat
  dec_len := decU_len
  dec_enc := decU_enc
  pos := fun t => by cases t <;> decide
  plain := plainK
  plain_ok := plainK_ok
def eltU (t : TypeId) : Option Knd :=
  cond (Nat.beq t 52) (some .ent) (cond (Nat.beq t 30) (some .rect) (cond (Nat.beq t 60) (some .bend) (cond (Nat.beq t 3) (some .int) (cond (Nat.beq t 4) (some .bool) (cond (Nat.beq t 22) (some .rects) (cond (Nat.beq t 86) (some .bools) (none)))))))
def plainU (t : TypeId) : Bool := Nat.beq t 30 || Nat.beq t 44 || Nat.beq t 58 || Nat.beq t 60
theorem plainU_ok : ∀ t, plainU t = true → PlainAt Try.prog t := by
  intro t h
  unfold plainU at h
  try simp only [Bool.or_eq_true] at h
  rcases h with ((h | h) | h) | h
  all_goals (obtain rfl := Nat.eq_of_beq_eq_true h; exact ⟨by kernel_rfl, by kernel_rfl, by kernel_rfl⟩)
noncomputable def C_base : Cfg UU := { P := Try.prog, E := EE, elt := eltU, sum := fun _ => none, plain := plainU, plainOK := plainU_ok, inv := inv0, invOK := inv0_ok }
theorem s_base : SumOK C_base := fun f m h => by cases h
noncomputable def C_names : Cfg UU := addRVN (addVN C_base)
theorem s_names : SumOK C_names := sRVN (sVN s_base rfl fun _ h => h) rfl
end Go.Proofs.Ytohecfbnmmgimaa
