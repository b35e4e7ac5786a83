/- Plain mathematics: the tables of the reference's search. -/
import Derived.Test.YtikcpfpeoofppaaMp
namespace Go.Proofs.Ytikcpfpeoofppaa

/-- What entries write into a table. -/
def putN {α : Type} (t : List Int) (f : Ent → α) (a : List α) (es : List Ent) : List α := es.foldl (fun a e => a.set (numR t e.1) (f e)) a
theorem putN_snoc {α : Type} (t : List Int) (f : Ent → α) (a : List α) (es : List Ent) (e : Ent) : putN t f a (es ++ [e]) = (putN t f a es).set (numR t e.1) (f e) := by simp [putN, List.foldl_append]
theorem putN_len {α : Type} (t : List Int) (f : Ent → α) : ∀ (es : List Ent) (a : List α), (putN t f a es).length = a.length
  | [], _a => rfl
  | e :: es, a => (putN_len t f es (a.set (numR t e.1) (f e))).trans List.length_set
theorem putN_out {α : Type} (t : List Int) (f : Ent → α) {n : Nat} (d : α) : ∀ (es : List Ent) (a : List α), (∀ e ∈ es, numR t e.1 ≠ n) → (putN t f a es).getD n d = a.getD n d
  | [], a, _ => rfl
  | e :: es, a, h => by
    refine (putN_out t f d es (a.set (numR t e.1) (f e)) (fun x hx => h x (by simp [hx]))).trans ?_
    have := h e (by simp)
    simp [List.getD_eq_getElem?_getD, this]
theorem putN_in {α : Type} (t : List Int) (f : Ent → α) (d : α) : ∀ (es : List Ent) (a : List α), es.Pairwise (fun a b => numR t a.1 ≠ numR t b.1) → ∀ e ∈ es, numR t e.1 < a.length → (putN t f a es).getD (numR t e.1) d = f e
  | [], a, _, e, he, _ => by simp at he
  | x :: es, a, hp, e, he, hl => by
    rw [List.pairwise_cons] at hp
    rcases List.mem_cons.1 he with rfl | he
    · refine (putN_out t f d es (a.set (numR t e.1) (f e)) (fun y hy => (hp.1 y hy).symm)).trans ?_
      simp [List.getD_eq_getElem?_getD, hl]
    · exact putN_in t f d es (a.set (numR t x.1) (f x)) hp.2 e he (by rw [List.length_set]; exact hl)

theorem good_num {t l : List Int} {es : List Ent} (h : Good t l es) : es.Pairwise (fun a b => numR t a.1 ≠ numR t b.1) :=
  h.nodup.imp_of_mem (fun {a b} ha hb hne he => hne (numR_inj (h.lev a ha) (h.lev b hb) he))

/-- The number of the levels in front. -/
def frontN (t : List Int) (e : Ent) : Int := if e.2.1 = [] then -1 else (numR t e.2.2 : Nat)
def fromL (t : List Int) (es : List Ent) : List Int := putN t (frontN t) (List.replicate (sizeR t) 0) es
def byL (t : List Int) (es : List Ent) : List Deed := putN t lastD (List.replicate (sizeR t) noDeed) es
def seenL (t : List Int) (es : List Ent) : List Bool := putN t (fun _ => true) (List.replicate (sizeR t) false) es
def ordL (t : List Int) (es : List Ent) : List Int := es.map fun e => ((numR t e.1 : Nat) : Int)

theorem fromL_len (t : List Int) (es : List Ent) : (fromL t es).length = sizeR t := by unfold fromL; rw [putN_len]; simp
theorem byL_len (t : List Int) (es : List Ent) : (byL t es).length = sizeR t := by unfold byL; rw [putN_len]; simp
theorem seenL_len (t : List Int) (es : List Ent) : (seenL t es).length = sizeR t := by unfold seenL; rw [putN_len]; simp
theorem ordL_len (t : List Int) (es : List Ent) : (ordL t es).length = es.length := by unfold ordL; simp

theorem fromL_at {t l : List Int} {es : List Ent} (h : Good t l es) {e : Ent} (he : e ∈ es) : (fromL t es).getD (numR t e.1) 0 = frontN t e := by
  unfold fromL
  exact putN_in t _ _ es _ (good_num h) e he (by rw [List.length_replicate]; exact numR_lt (h.lev e he))
theorem byL_at {t l : List Int} {es : List Ent} (h : Good t l es) {e : Ent} (he : e ∈ es) : (byL t es).getD (numR t e.1) noDeed = lastD e := by
  unfold byL
  exact putN_in t _ _ es _ (good_num h) e he (by rw [List.length_replicate]; exact numR_lt (h.lev e he))
theorem seenL_at {t l n : List Int} {es : List Ent} (h : Good t l es) (hn : Lev t n) : (seenL t es).getD (numR t n) false = decide (n ∈ es.map (fun e : Ent => e.1)) := by
  unfold seenL
  by_cases hm : n ∈ es.map (fun e : Ent => e.1)
  · rw [decide_eq_true hm]
    obtain ⟨e, he, rfl⟩ := List.mem_map.1 hm
    exact putN_in t _ _ es _ (good_num h) e he (by rw [List.length_replicate]; exact numR_lt hn)
  · rw [decide_eq_false hm]
    refine (putN_out t _ _ es _ (fun e he h' => hm (List.mem_map.2 ⟨e, he, numR_inj (h.lev e he) hn h'⟩))).trans ?_
    simp [List.getD_eq_getElem?_getD, List.getElem?_replicate]
    split <;> rfl
theorem ordL_at {t : List Int} {es : List Ent} {i : Nat} (h : i < es.length) : (ordL t es).getD i 0 = ((numR t (es.getD i noE).1 : Nat) : Int) := by
  unfold ordL
  simp [List.getD_eq_getElem?_getD, h]

theorem front_new (t : List Int) (n : List Int) (ds : List Deed) (d : Deed) (p : List Int) : frontN t (n, ds ++ [d], p) = ((numR t p : Nat) : Int) := by
  unfold frontN
  rw [if_neg (by simp)]

theorem lastD_snoc (n : List Int) (ds : List Deed) (d : Deed) (p : List Int) : lastD (n, ds ++ [d], p) = d := by simp [lastD]

/-- The tables when an entry comes. -/
theorem from_new (t : List Int) (es : List Ent) (n : List Int) (ds : List Deed) (d : Deed) (p : List Int) : fromL t (es ++ [(n, ds ++ [d], p)]) = (fromL t es).set (numR t n) ((numR t p : Nat) : Int) := by
  unfold fromL
  rw [putN_snoc, front_new]
theorem by_new (t : List Int) (es : List Ent) (n : List Int) (ds : List Deed) (d : Deed) (p : List Int) : byL t (es ++ [(n, ds ++ [d], p)]) = (byL t es).set (numR t n) d := by
  unfold byL
  rw [putN_snoc, lastD_snoc]
theorem seen_new (t : List Int) (es : List Ent) (e : Ent) : seenL t (es ++ [e]) = (seenL t es).set (numR t e.1) true := by
  unfold seenL
  rw [putN_snoc]
theorem ord_new (t : List Int) (es : List Ent) (e : Ent) : ordL t (es ++ [e]) = ordL t es ++ [((numR t e.1 : Nat) : Int)] := by simp [ordL]

/-- The tables at the start. -/
theorem from_start (t l : List Int) : fromL t [(l, [], [])] = (List.replicate (sizeR t) 0).set (numR t l) (-1) := rfl
theorem seen_start (t l : List Int) : seenL t [(l, [], [])] = (List.replicate (sizeR t) false).set (numR t l) true := rfl
theorem ord_start (t l : List Int) : ordL t [(l, [], [])] = [((numR t l : Nat) : Int)] := rfl
theorem by_start (t l : List Int) : byL t [(l, [], [])] = List.replicate (sizeR t) noDeed := by
  show (List.replicate (sizeR t) noDeed).set (numR t l) noDeed = _
  apply List.ext_getElem
  · simp
  · intro i h1 h2
    rw [List.getElem_set]
    split
    · simp
    · rfl

end Go.Proofs.Ytikcpfpeoofppaa
