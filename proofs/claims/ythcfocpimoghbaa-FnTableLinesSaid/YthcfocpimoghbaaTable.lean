/- Tables of texts: what turns rows into columns, and the widths of columns. Plain lists. -/
namespace DocPure

abbrev Cells := List (List ByteArray)

def rowAt (cells : Cells) (i : Nat) : List ByteArray := cells.getD i []

def cellIn (r : List ByteArray) (k : Nat) : ByteArray := r.getD k ByteArray.empty

def colsOf (cells : Cells) : Nat := (rowAt cells 0).length

def colAt (cells : Cells) (k : Nat) : List ByteArray := cells.map fun r => cellIn r k

def flipT (cells : Cells) : Cells := (List.range (colsOf cells)).map (colAt cells)

/-- All rows have as many cells as the first one. -/
structure Rect (cells : Cells) : Prop where
  rows : 1 ≤ cells.length
  cols : 1 ≤ colsOf cells
  row : ∀ r ∈ cells, r.length = colsOf cells

theorem rowAt_get {cells : Cells} {i : Nat} (h : i < cells.length) : rowAt cells i = cells[i] := by
  unfold rowAt
  rw [List.getD_eq_getElem?_getD, List.getElem?_eq_getElem h]; rfl

theorem cellIn_get {r : List ByteArray} {k : Nat} (h : k < r.length) : cellIn r k = r[k] := by
  unfold cellIn
  rw [List.getD_eq_getElem?_getD, List.getElem?_eq_getElem h]; rfl

theorem rowAt_mem {cells : Cells} {i : Nat} (h : i < cells.length) : rowAt cells i ∈ cells := by
  rw [rowAt_get h]; exact List.getElem_mem _

theorem flip_len (cells : Cells) : (flipT cells).length = colsOf cells := by simp [flipT]

theorem flip_row {cells : Cells} {k : Nat} (h : k < colsOf cells) : rowAt (flipT cells) k = colAt cells k := by
  rw [rowAt_get (by rw [flip_len]; exact h)]
  simp [flipT]

theorem flip_cols {cells : Cells} (h : Rect cells) : colsOf (flipT cells) = cells.length := by
  unfold colsOf
  rw [flip_row h.cols]
  simp [colAt]

theorem flip_rect {cells : Cells} (h : Rect cells) : Rect (flipT cells) where
  rows := by rw [flip_len]; exact h.cols
  cols := by rw [flip_cols h]; exact h.rows
  row := fun r hr => by
    rw [flip_cols h]
    unfold flipT at hr
    obtain ⟨k, -, rfl⟩ := List.mem_map.1 hr
    simp [colAt]

theorem col_cell {cells : Cells} {k i : Nat} (hi : i < cells.length) : cellIn (colAt cells k) i = cellIn (rowAt cells i) k := by
  rw [cellIn_get (by simp [colAt]; exact hi), rowAt_get hi]
  simp [colAt]

theorem flip_flip {cells : Cells} (h : Rect cells) : flipT (flipT cells) = cells := by
  refine List.ext_getElem (by rw [flip_len, flip_cols h]) fun i h1 h2 => ?_
  have e : (flipT (flipT cells))[i] = colAt (flipT cells) i := by simp [flipT]
  rw [e]
  have hr := h.row _ (List.getElem_mem h2)
  refine List.ext_getElem (by simp only [colAt, List.length_map]; rw [flip_len, hr]) fun k g1 g2 => ?_
  have e2 : (colAt (flipT cells) i)[k] = cellIn (rowAt (flipT cells) k) i := by
    rw [rowAt_get (by simpa [colAt] using g1)]
    simp [colAt]
  rw [e2, flip_row (by omega), col_cell h2, rowAt_get h2, cellIn_get g2]

/-- A cell of the flipped table is a cell of the table. -/
theorem flip_cells {cells : Cells} {P : ByteArray → Prop} (h : Rect cells) (hp : ∀ r ∈ cells, ∀ c ∈ r, P c) : ∀ r ∈ flipT cells, ∀ c ∈ r, P c := by
  intro r hr c hc
  unfold flipT at hr
  obtain ⟨k, hk, rfl⟩ := List.mem_map.1 hr
  rw [List.mem_range] at hk
  unfold colAt at hc
  obtain ⟨q, hq, rfl⟩ := List.mem_map.1 hc
  have := h.row q hq
  rw [cellIn_get (by omega)]
  exact hp q hq _ (List.getElem_mem _)

def maxL (l : List Int) : Int := l.foldl max 0

theorem foldl_max_le (l : List Int) : ∀ (m B : Int), l.foldl max m ≤ B ↔ m ≤ B ∧ ∀ x ∈ l, x ≤ B := by
  induction l with
  | nil => intro m B; simp
  | cons a l ih =>
    intro m B
    rw [List.foldl_cons, ih]
    simp only [List.mem_cons, forall_eq_or_imp]
    constructor
    · rintro ⟨h1, h2⟩; exact ⟨by omega, by omega, h2⟩
    · rintro ⟨h1, h2, h3⟩; exact ⟨by omega, h3⟩

theorem maxL_le (l : List Int) (B : Int) : maxL l ≤ B ↔ 0 ≤ B ∧ ∀ x ∈ l, x ≤ B := foldl_max_le l 0 B

theorem le_maxL {l : List Int} {x : Int} (h : x ∈ l) : x ≤ maxL l := ((maxL_le l (maxL l)).1 (Int.le_refl _)).2 x h

theorem maxL_nonneg (l : List Int) : 0 ≤ maxL l := ((maxL_le l (maxL l)).1 (Int.le_refl _)).1

theorem foldl_max_mem (l : List Int) : ∀ (m : Int), l.foldl max m = m ∨ l.foldl max m ∈ l := by
  induction l with
  | nil => intro m; exact .inl rfl
  | cons a l ih =>
    intro m
    rw [List.foldl_cons]
    rcases ih (max m a) with h | h
    · by_cases e : m ≤ a
      · right; rw [h, Int.max_eq_right e]; exact List.mem_cons_self ..
      · left; rw [h, Int.max_eq_left (by omega)]
    · exact .inr (List.mem_cons_of_mem _ h)

def sizesOf (l : List ByteArray) : List Int := l.map fun c => (c.size : Int)

def colW (cells : Cells) (k : Nat) : Int := maxL (sizesOf (colAt cells k))

def widthsT (cells : Cells) : List Int := (List.range (colsOf cells)).map (colW cells)

theorem widths_len (cells : Cells) : (widthsT cells).length = colsOf cells := by simp [widthsT]

theorem widths_get {cells : Cells} {k : Nat} (h : k < (widthsT cells).length) : (widthsT cells)[k] = colW cells k := by simp [widthsT]

theorem size_le_colW {cells : Cells} {i k : Nat} (hi : i < cells.length) : ((cellIn (rowAt cells i) k).size : Int) ≤ colW cells k := by
  refine le_maxL ?_
  unfold sizesOf colAt
  rw [List.map_map, rowAt_get hi]
  exact List.mem_map.2 ⟨_, List.getElem_mem hi, rfl⟩

/-- Some cell is as wide as its column. -/
theorem colW_some {cells : Cells} (h : 1 ≤ cells.length) (k : Nat) : ∃ i, i < cells.length ∧ ((cellIn (rowAt cells i) k).size : Int) = colW cells k := by
  unfold colW maxL
  rcases foldl_max_mem (sizesOf (colAt cells k)) 0 with e | e
  · refine ⟨0, by omega, ?_⟩
    rw [e]
    have := size_le_colW (cells := cells) (i := 0) (k := k) (by omega)
    unfold colW maxL at this
    rw [e] at this
    omega
  · unfold sizesOf colAt at e
    rw [List.map_map] at e
    obtain ⟨r, hr, he⟩ := List.mem_map.1 e
    obtain ⟨i, hi, rfl⟩ := List.getElem_of_mem hr
    refine ⟨i, hi, ?_⟩
    rw [rowAt_get hi]
    unfold sizesOf colAt
    rw [List.map_map]
    exact he

theorem widths_le {cells : Cells} (h : Rect cells) (B : Int) : maxL (widthsT cells) ≤ B ↔ 0 ≤ B ∧ ∀ r ∈ cells, ∀ c ∈ r, (c.size : Int) ≤ B := by
  rw [maxL_le]
  refine and_congr_right fun h0 => ⟨fun g r hr c hc => ?_, fun g x hx => ?_⟩
  · obtain ⟨i, hi, rfl⟩ := List.getElem_of_mem hr
    obtain ⟨k, hk, rfl⟩ := List.getElem_of_mem hc
    have hl := h.row _ hr
    have h1 := size_le_colW (cells := cells) (i := i) (k := k) hi
    rw [rowAt_get hi, cellIn_get hk] at h1
    exact Int.le_trans h1 (g _ (by unfold widthsT; exact List.mem_map.2 ⟨k, List.mem_range.2 (by omega), rfl⟩))
  · unfold widthsT at hx
    obtain ⟨k, hk, rfl⟩ := List.mem_map.1 hx
    rw [List.mem_range] at hk
    unfold colW
    rw [maxL_le]
    refine ⟨h0, fun y hy => ?_⟩
    unfold sizesOf colAt at hy
    rw [List.map_map] at hy
    obtain ⟨r, hr, rfl⟩ := List.mem_map.1 hy
    have := h.row r hr
    simp only [Function.comp]
    rw [cellIn_get (by omega)]
    exact g r hr _ (List.getElem_mem _)

/-- Flipping keeps the width of the widest cell. -/
theorem flip_widths {cells : Cells} (h : Rect cells) : maxL (widthsT (flipT cells)) = maxL (widthsT cells) := by
  have h' := flip_rect h
  refine Int.le_antisymm ?_ ?_
  · rw [widths_le h']
    have := (widths_le h _).1 (Int.le_refl (maxL (widthsT cells)))
    exact ⟨this.1, flip_cells (P := fun c => (c.size : Int) ≤ _) h this.2⟩
  · rw [widths_le h]
    have := (widths_le h' _).1 (Int.le_refl (maxL (widthsT (flipT cells))))
    refine ⟨this.1, ?_⟩
    have g := flip_cells (P := fun c => (c.size : Int) ≤ _) h' this.2
    rw [flip_flip h] at g
    exact g

end DocPure
