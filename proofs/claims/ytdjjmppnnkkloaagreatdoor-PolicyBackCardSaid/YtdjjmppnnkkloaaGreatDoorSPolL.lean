import Derived.Test.YtdjjmppnnkkloaaGreatDoorK1
import Derived.Test.YtdjjmppnnkkloaaGreatDoorSPathP
import Derived.Test.YtdjjmppnnkkloaaGreatDoorSAtoiN
namespace Go.Proofs.YtdjjmppnnkkloaaGreatDoor
open Sy Go
set_option linter.unusedSimpArgs false
set_option linter.unusedVariables false
structure Mk where
 path : List Step
 mask : Int
 deriving DecidableEq
structure Pol where
 cats : List (List UInt8)
 marks : List Mk
 token : List UInt8
 fuel : Int
 quota : Int
 deriving DecidableEq
@[simp] def Mk.enc (m : Mk) : PD := .agg [.sl 3 (m.path.map Step.enc), .int .u64 m.mask]
@[simp] def Pol.enc (p : Pol) : PD := .agg [.sl 1 (p.cats.map PD.str), .sl 2 (p.marks.map Mk.enc), .str p.token, .int .i64 p.fuel, .int .i64 p.quota]
def pol0 : Pol := ⟨[], [], [], 0, 0⟩
def fuelM (n : Int) : Bool := decide (1 ≤ n) && decide (n ≤ 100000)
def badM (n : Nat) (m : Int) : Bool := decide (m = 0) || (decide ((n : Int) < 64) && decide (m / 2 ^ n ≠ 0))
def marksM (n : Nat) : List Mk → Int
 | [] => 0
 | m :: r => if mayL m.path ≠ 0 then mayL m.path else if badM n m.mask = true then 22 else marksM n r
def polMay (p : Pol) : Int :=
 if catsMayM p.cats ≠ 0 then catsMayM p.cats else if 16 < p.marks.length then 3 else if marksM p.cats.length p.marks ≠ 0 then marksM p.cats.length p.marks
 else if 24 < p.token.length ∨ Lib.validD p.token = false ∨ fuelM p.fuel = false ∨ fuelM p.quota = false then 22 else 0
def kwCats : List UInt8 := [99, 97, 116, 115]
def kwMark : List UInt8 := [109, 97, 114, 107]
def kwToken : List UInt8 := [116, 111, 107, 101, 110]
def kwFuel : List UInt8 := [102, 117, 101, 108]
def kwQuota : List UInt8 := [113, 117, 111, 116, 97]
def rowT (ws : List (List UInt8)) : List UInt8 := Lib.join ws [32] ++ [10]
def markT (cats : List (List UInt8)) (m : Mk) : List UInt8 := rowT [kwMark, namesT cats m.mask, printS m.path]
def headT (p : Pol) (k : Nat) : List UInt8 := rowT (kwCats :: p.cats) ++ (p.marks.take k).flatMap (markT p.cats)
def polPrint (p : Pol) : List UInt8 := headT p p.marks.length ++ rowT [kwToken, quoteT p.token] ++ rowT [kwFuel, Lib.itoa p.fuel] ++ rowT [kwQuota, Lib.itoa p.quota]
def isErr : PD → Bool
 | .noerr => false
 | _ => true
def numberM (s : List UInt8) : Int := if isErr (atoiT s).2 = true ∨ fuelM (atoiT s).1 = false then 0 else (atoiT s).1
def lineM (p : Pol) (s : List UInt8) : Pol × Bool :=
 let w := (cutB 32 s).1
 let rest := (cutB 32 s).2.1
 if w = kwCats then ({ p with cats := (splitB 32 rest).filter (fun x => !decide (x = [])) }, decide (catsMayM ((splitB 32 rest).filter (fun x => !decide (x = []))) = 0))
 else if w = kwMark then ({ p with marks := p.marks ++ [⟨(parseT (36 :: (cutB 36 rest).2.1)).1, (maskT p.cats (cutB 36 rest).1).1⟩] }, (cutB 36 rest).2.2 && decide ((maskT p.cats (cutB 36 rest).1).2 = 0) && decide ((parseT (36 :: (cutB 36 rest).2.1)).2 = 0))
 else if w = kwToken then ({ p with token := (unquoteT rest).1 }, decide ((unquoteT rest).2.2 = 0))
 else if w = kwFuel then ({ p with fuel := numberM rest }, true)
 else if w = kwQuota then ({ p with quota := numberM rest }, true)
 else (p, false)
def stepP (a : Pol × Bool) (l : List UInt8) : Pol × Bool := if a.2 = true then lineM a.1 l else a
def readP (s : List UInt8) : Pol × Bool := (splitB 10 (cutEnd 10 s)).foldl stepP (pol0, true)
def polParse (s : List UInt8) : Pol × Int := if (readP s).2 = true ∧ polMay (readP s).1 = 0 ∧ polPrint (readP s).1 = s then ((readP s).1, 0) else (pol0, 22)
theorem may_cats {cats : List (List UInt8)} (h : catsMayM cats = 0) : cats.length ≤ 64 ∧ cats.Nodup ∧ cats.all mayNameM = true := by
 unfold catsMayM at h
 split at h
 ·cases h
 ·split at h
  ·rename_i h1 h2
   simp only [Bool.and_eq_true, decide_eq_true_eq] at h2
   exact ⟨by omega, h2.1, h2.2⟩
  ·cases h
theorem name_le {s : List UInt8} (h : mayNameM s = true) : s.length ≤ 24 := by
 unfold mayNameM at h
 simp only [Bool.and_eq_true, decide_eq_true_eq] at h
 exact h.2.1
theorem cats_le {cats : List (List UInt8)} (h : catsMayM cats = 0) : ∀ c ∈ cats, c.length ≤ 24 := fun c hc => name_le (List.all_eq_true.1 (may_cats h).2.2 c hc)
theorem marks_may {n : Nat} : ∀ {l : List Mk}, marksM n l = 0 → ∀ m ∈ l, mayL m.path = 0 ∧ badM n m.mask = false
 | [], _, m, hm => by cases hm
 | x :: l, h, m, hm => by
  simp only [marksM] at h
  split at h
  ·rename_i h1; exact absurd h h1
  ·rename_i h1
   split at h
   ·cases h
   ·rename_i h2
    rcases List.mem_cons.1 hm with rfl | hm
    ·exact ⟨by simpa using h1, by simpa using h2⟩
    ·exact marks_may h m hm
theorem may_zeroL {l : List Step} (h : mayL l = 0) : l.all mayM = true ∧ l.length ≤ 8 := by
 unfold mayL at h
 split at h
 ·cases h
 ·split at h
  ·rename_i h1 h2; exact ⟨h2, by omega⟩
  ·cases h
structure PolOK (p : Pol) : Prop where
 cats : catsMayM p.cats = 0
 few : p.marks.length ≤ 16
 marks : marksM p.cats.length p.marks = 0
 token : p.token.length ≤ 24 ∧ Lib.validD p.token = true
 fuel : 1 ≤ p.fuel ∧ p.fuel ≤ 100000
 quota : 1 ≤ p.quota ∧ p.quota ≤ 100000
theorem may_pol {p : Pol} : polMay p = 0 ↔ PolOK p := by
 unfold polMay
 constructor
 ·intro h
  split at h
  ·rename_i h1; exact absurd h h1
  rename_i h1
  split at h
  ·cases h
  rename_i h2
  split at h
  ·rename_i h3; exact absurd h h3
  rename_i h3
  split at h
  ·cases h
  rename_i h4
  simp only [not_or, Bool.not_eq_false] at h4
  obtain ⟨g1, g2, g3, g4⟩ := h4
  simp only [fuelM, Bool.and_eq_true, decide_eq_true_eq] at g3 g4
  exact ⟨by simpa using h1, by omega, by simpa using h3, ⟨by omega, g2⟩, g3, g4⟩
 ·rintro ⟨h1, h2, h3, h4, h5, h6⟩
  rw [if_neg (by simp [h1]), if_neg (by omega), if_neg (by simp [h3]), if_neg]
  simp only [not_or, Bool.not_eq_false, fuelM, Bool.and_eq_true, decide_eq_true_eq]
  exact ⟨by omega, h4.2, h5, h6⟩
theorem names_le {cats : List (List UInt8)} (h : catsMayM cats = 0) (m : Int) : (namesT cats m).length ≤ 1600 := by
 unfold namesT
 have h1 := joinN_le 24 (pickC cats 0 m) fun x hx => cats_le h x (pick_sub hx)
 have h2 := pick_le m cats 0
 have h3 := (may_cats h).1
 have : (pickC cats 0 m).length * 25 ≤ 64 * 25 := Nat.mul_le_mul_right _ (by omega)
 omega
theorem row_len (ws : List (List UInt8)) (b : Nat) (h : ∀ x ∈ ws, x.length ≤ b) : (rowT ws).length ≤ ws.length * (b + 1) + 1 := by
 have := joinN_le b ws h
 simp only [rowT, List.length_append, List.length_cons, List.length_nil]; omega
theorem path_le {l : List Step} (h : mayL l = 0) : (printS l).length ≤ 1601 := by
 have hz := may_zeroL h
 have := flat_le hz.1
 simp only [printS, List.length_cons]; omega
theorem mark_le {cats : List (List UInt8)} (h : catsMayM cats = 0) {m : Mk} (hm : mayL m.path = 0) : (markT cats m).length ≤ 5000 := by
 have h1 := names_le h m.mask
 have h2 := path_le hm
 have := row_len [kwMark, namesT cats m.mask, printS m.path] 1601 (by
  intro x hx
  simp only [List.mem_cons, List.not_mem_nil, or_false] at hx
  rcases hx with rfl | rfl | rfl
  ·simp [kwMark]
  ·omega
  ·exact h2)
 simp only [List.length_cons, List.length_nil] at this
 unfold markT; omega
theorem catsrow_le {cats : List (List UInt8)} (h : catsMayM cats = 0) : (rowT (kwCats :: cats)).length ≤ 2000 := by
 have h1 := (may_cats h).1
 have := row_len (kwCats :: cats) 24 (by
  intro x hx
  rcases List.mem_cons.1 hx with rfl | hx
  ·simp [kwCats]
  ·exact cats_le h x hx)
 simp only [List.length_cons] at this; omega
theorem head_le {p : Pol} (h : PolOK p) (k : Nat) : (headT p k).length ≤ 2000 + 5000 * p.marks.length := by
 have h1 := catsrow_le h.cats
 have key : ∀ l : List Mk, (∀ m ∈ l, mayL m.path = 0) → (l.flatMap (markT p.cats)).length ≤ 5000 * l.length := by
  intro l
  induction l with
  | nil => simp
  | cons m l ih =>
   intro hl
   have := mark_le h.cats (hl m (by simp))
   have := ih fun x hx => hl x (by simp [hx])
   simp only [List.flatMap_cons, List.length_append, List.length_cons]; omega
 have h2 := key (p.marks.take k) fun m hm => (marks_may h.marks m (List.mem_of_mem_take hm)).1
 have h3 : (p.marks.take k).length ≤ p.marks.length := by simp; omega
 simp only [headT, List.length_append]; omega
theorem head_snoc {p : Pol} {k : Nat} {m : Mk} (h : p.marks[k]? = some m) : headT p (k + 1) = headT p k ++ markT p.cats m := by
 simp [headT, List.take_add_one, h]
end Go.Proofs.YtdjjmppnnkkloaaGreatDoor
