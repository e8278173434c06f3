/- The rows of a library in plain words: the first that may not be. -/
import Derived.Test.YtcbfaobepmhidaaDoorH2
namespace Go.Proofs.YtcbfaobepmhidaaDoor
open Go.RowKit Go.Extern.Stop Go.Stop Go.Extern

def okDoor (n : Int) (d : DoorD) : Bool := decide (1 ≤ d.key) && decide (d.key ≤ 999) && decide (0 ≤ d.pl) && decide (d.pl < n)
def okK (k : Int) : Bool := decide (0 ≤ k) && decide (k ≤ 7)
def okKinds (d : DoorD) : Bool := okK d.k0 && okK d.k1 && okK d.k2 && okK d.k3
def hasKey (l : List DoorD) (k : Int) : Bool := l.any fun d => d.key == k
/-- May a row be behind these? -/
def okRow (n : Int) (pre : List DoorD) (d : DoorD) : Bool := okDoor n d && !hasKey pre d.key && okKinds d
def firstDoor (n : Int) : List DoorD → List DoorD → Nat → Option Nat
  | _, [], _ => none
  | pre, d :: r, i => if okRow n pre d then firstDoor n (pre ++ [d]) r (i + 1) else some i
theorem firstDoor_at (n : Int) (ds : List DoorD) (k : Nat) (h : k < ds.length) : firstDoor n (ds.take k) (ds.drop k) k = if okRow n (ds.take k) ds[k] then firstDoor n (ds.take (k + 1)) (ds.drop (k + 1)) (k + 1) else some k := by
  rw [List.drop_eq_getElem_cons h, List.take_succ_eq_append_getElem h]; rfl
/-- Keys that got by: in 1 .. 999, and each once. -/
def Keys (l : List DoorD) : Prop := (∀ d ∈ l, 1 ≤ d.key ∧ d.key ≤ 999) ∧ (l.map DoorD.key).Nodup
theorem Keys.nil : Keys [] := ⟨by simp, by simp⟩
theorem hasKey_iff (l : List DoorD) (k : Int) : hasKey l k = true ↔ k ∈ l.map DoorD.key := by
  simp [hasKey]
theorem Keys.snoc {n : Int} {l : List DoorD} {d : DoorD} (h : Keys l) (hd : okRow n l d = true) : Keys (l ++ [d]) := by
  unfold okRow okDoor at hd
  simp only [Bool.and_eq_true, decide_eq_true_eq, Bool.not_eq_true'] at hd
  obtain ⟨⟨⟨⟨⟨h1, h2⟩, _⟩, _⟩, h3⟩, _⟩ := hd
  refine ⟨fun x hx => ?_, ?_⟩
  · rcases List.mem_append.1 hx with hx | hx
    · exact h.1 x hx
    · obtain rfl := List.mem_singleton.1 hx; exact ⟨h1, h2⟩
  · rw [List.map_append, List.nodup_append]
    refine ⟨h.2, by simp, fun a ha b hb e => ?_⟩
    simp only [List.map_cons, List.map_nil, List.mem_singleton] at hb
    subst hb e
    have := (hasKey_iff l d.key).2 ha
    rw [h3] at this; cases this
theorem nodup_bound (m : Nat) : ∀ (l : List Int), (∀ x ∈ l, 1 ≤ x ∧ x ≤ m) → l.Nodup → l.length ≤ m := by
  induction m with
  | zero =>
    intro l hl _
    cases l with
    | nil => simp
    | cons x r => have := hl x (by simp); omega
  | succ m ih =>
    intro l hl hn
    by_cases hm : ((m + 1 : Nat) : Int) ∈ l
    · have h1 : (l.erase ((m + 1 : Nat) : Int)).length ≤ m := ih _ (fun x hx => by
        have h2 := hl x (List.mem_of_mem_erase hx)
        have h3 : x ≠ ((m + 1 : Nat) : Int) := fun e => by subst e; exact (List.Nodup.not_mem_erase hn) hx
        omega) (hn.erase _)
      rw [List.length_erase_of_mem hm] at h1
      omega
    · have h1 := ih l (fun x hx => by
        have h2 := hl x hx
        have h3 : x ≠ ((m + 1 : Nat) : Int) := fun e => by subst e; exact hm hx
        omega) hn
      omega
theorem Keys.len {l : List DoorD} (h : Keys l) : l.length ≤ 999 := by
  have := nodup_bound 999 (l.map DoorD.key) (fun x hx => by
    obtain ⟨d, hd, rfl⟩ := List.mem_map.1 hx
    have := h.1 d hd; omega) h.2
  simpa using this

def libraryF (l : List InsD) (lp : Int) (ds : List DoorD) : Ans :=
  if l = [] then some ([(codeS, 0)], 1)
  else match Ans.wrap (checkF l (fun x => mayF x l.length true)) with
    | some r => some r
    | none => match placeF lp l.length with
      | some r => some r
      | none => (firstDoor l.length [] ds 0).map fun (i : Nat) => ([(codeS, (i : Int))], 1)
theorem libraryF_good (l : List InsD) (lp : Int) (ds : List DoorD) : Ans.good (libraryF l lp ds) := by
  intro ls k h
  unfold libraryF at h
  split at h
  · cases h; exact ⟨by simp, by simp, by omega, by omega⟩
  · cases hc : checkF l (fun x => mayF x l.length true) with
    | none =>
      rw [hc] at h
      simp only [Ans.wrap] at h
      cases hp : placeF lp l.length with
      | none =>
        rw [hp] at h
        simp only at h
        cases hf : firstDoor l.length [] ds 0 with
        | none => rw [hf] at h; cases h
        | some i => rw [hf] at h; cases h; exact ⟨by simp, by simp, by omega, by omega⟩
      | some r =>
        rw [hp] at h
        unfold placeF at hp
        split at hp
        · cases hp; cases h; exact ⟨by simp, by simp, by omega, by omega⟩
        · cases hp
    | some r =>
      obtain ⟨ls1, k1⟩ := r
      obtain ⟨n, rfl⟩ := checkF_one _ _ _ _ hc
      obtain ⟨_, _, g3, g4⟩ := checkF_good _ _ _ _ hc
      rw [hc] at h
      simp only [Ans.wrap, Option.some.injEq, Prod.mk.injEq] at h
      obtain ⟨rfl, rfl⟩ := h
      exact ⟨by simp, by simp, g3, g4⟩
end Go.Proofs.YtcbfaobepmhidaaDoor
