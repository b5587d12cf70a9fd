/- Layer 6: the document's reading functions, their printed forms told plainly. -/
import Derived.Test.YtpmnljdhjgjgfaaEv06V
namespace Go.Proofs.Ytpmnljdhjgjgfaa.Thw
open Go Go.RowKit Go.Maps Go.Proofs.YtpmnljdhjgjgfaaW.PrintWords Go.Proofs.YtpmnljdhjgjgfaaW.PrintLast Go.Proofs.YtpmnljdhjgjgfaaW.PrintMore
set_option linter.unusedVariables false
set_option linter.unusedSimpArgs false
abbrev rdR := Go.Proofs.Ytpmnljdhjgjgfaa.Ref.rd_T53
theorem rdR_at {L : List RFile} {i : Nat} (h : i < L.length) : rdR L (i : Int) = L[i] := by simp [rdR, Ref.rd_T53, List.getD_eq_getElem?_getD, h]
theorem w64 {x : Int} (h : -9223372036854775808 ≤ x ∧ x ≤ 9223372036854775807) : wrap64 x = x := by unfold wrap64; omega
def isN (k : ByteArray) (x : RFile) : Bool := decide (x.f0 = k)
/-- A file's place; -1: there is none. -/
def atR (L : List RFile) (k : ByteArray) : Int := if L.findIdx (isN k) < L.length then (L.findIdx (isN k) : Int) else -1
theorem toList_inj {a b : ByteArray} : a.toList = b.toList ↔ a = b := by
  rw [Lib.toList_data, Lib.toList_data]
  exact ⟨bs_inj, fun h => h ▸ rfl⟩
theorem at_l0 (L : List RFile) (hl : L.length ≤ 1000000) (k : ByteArray) (a c : Int) (b : Bool) : ∀ (n i fuel : Nat), L.length - i = n → i ≤ L.length → n < fuel → (∀ j (h : j < L.length), j < i → L[j].f0 ≠ k) →
    Ref.thwartref06_Disk_at.l0 fuel k (i : Int) a L c b = some (atR L k, a, c, b) := by
  intro n
  induction n with
  | zero =>
    intro i fuel hn hi hf hj
    obtain ⟨fuel, rfl⟩ : ∃ f, fuel = f + 1 := ⟨fuel - 1, by omega⟩
    have hii : i = L.length := by omega
    subst hii
    rw [Ref.thwartref06_Disk_at.l0, if_neg (by omega)]
    have : L.findIdx (isN k) = L.length := List.findIdx_eq_length.2 fun x hx => by
      obtain ⟨j, hjl, rfl⟩ := List.mem_iff_getElem.1 hx
      simpa [isN] using hj j hjl hjl
    simp [atR, this]
  | succ n ih =>
    intro i fuel hn hi hf hj
    obtain ⟨fuel, rfl⟩ : ∃ f, fuel = f + 1 := ⟨fuel - 1, by omega⟩
    have hil : i < L.length := by omega
    rw [Ref.thwartref06_Disk_at.l0, if_pos (by omega), if_pos (by omega)]
    have e := rdR_at hil
    unfold rdR at e
    rw [e]
    by_cases hk : L[i].f0 = k
    · rw [if_pos (toList_inj.2 hk)]
      have : L.findIdx (isN k) = i := (List.findIdx_eq hil).2 ⟨by simpa [isN] using hk, fun j hji => by simpa [isN] using hj j (by omega) hji⟩
      simp [atR, this, hil]
    · rw [if_neg (fun h => hk (toList_inj.1 h))]
      have e2 : wrap64 ((i : Int) + 1) = ((i + 1 : Nat) : Int) := by rw [w64 (by omega)]; rfl
      rw [e2]
      refine ih (i + 1) fuel (by omega) (by omega) (by omega) fun j h hji => ?_
      by_cases hjj : j = i
      · subst hjj; exact hk
      · exact hj j h (by omega)
theorem at_f (L : List RFile) (hl : L.length ≤ 1000000) (k : ByteArray) (a c : Int) (b : Bool) : Ref.thwartref06_Disk_at.f (L.length + 1) a L c b k = some (atR L k, a, c, b) :=
  at_l0 L hl k a c b L.length 0 _ (by omega) (by omega) (by omega) (fun j _ h => absurd h (by omega))
theorem atR_refL {m : Fls} (hn : (m.map (·.1)).Nodup) (k : ByteArray) : (look m k = none ∧ atR (refL m) k = -1) ∨ ∃ f i, look m k = some f ∧ atR (refL m) k = ((i : Nat) : Int) ∧ (refL m)[i]? = some ⟨k, f.b, f.sure⟩ := by
  cases hlk : look m k with
  | none =>
    refine Or.inl ⟨rfl, ?_⟩
    have : (refL m).findIdx (isN k) = (refL m).length := List.findIdx_eq_length.2 fun x hx => by
      unfold refL at hx
      obtain ⟨s, hs, rfl⟩ := List.mem_map.1 hx
      simp only [isN, decide_eq_false_iff_not]
      rintro rfl
      have := (mem_keys_iff m _).1 (mem_names.1 hs)
      rw [hlk] at this; cases this
    simp [atR, this]
  | some f =>
    refine Or.inr ⟨f, (refL m).findIdx (isN k), rfl, ?_⟩
    have hmem : (⟨k, f.b, f.sure⟩ : RFile) ∈ refL m := List.mem_map.2 ⟨k, mem_names.2 ((mem_keys_iff m k).2 (by rw [hlk]; rfl)), by simp [fileIn, hlk]⟩
    have hlt : (refL m).findIdx (isN k) < (refL m).length := List.findIdx_lt_length_of_exists ⟨_, hmem, by simp [isN]⟩
    refine ⟨by simp [atR, hlt], ?_⟩
    have h1 : isN k ((refL m)[(refL m).findIdx (isN k)]) = true := List.findIdx_getElem
    have h2 : (refL m)[(refL m).findIdx (isN k)] ∈ refL m := List.getElem_mem hlt
    rw [List.getElem?_eq_getElem hlt]
    unfold refL at h2
    obtain ⟨s, hs, e⟩ := List.mem_map.1 h2
    change _ = (refL m)[(refL m).findIdx (isN k)] at e
    rw [← e] at h1 ⊢
    simp only [isN, decide_eq_true_eq] at h1
    subst h1
    simp [fileIn, hlk]
theorem wo_l0 (L : List RFile) (hl : L.length ≤ 1000000) (k : ByteArray) (a c : Int) (b : Bool) : ∀ (n i fuel : Nat) (acc : List RFile), L.length - i = n → i ≤ L.length → n < fuel → acc.length ≤ i →
    Ref.thwartref06_Disk_without.l0 fuel k acc (i : Int) a L c b = some (acc ++ wo (L.drop i) k, a, c, b) := by
  intro n
  induction n with
  | zero =>
    intro i fuel acc hn hi hf ha
    obtain ⟨fuel, rfl⟩ : ∃ f, fuel = f + 1 := ⟨fuel - 1, by omega⟩
    have hii : i = L.length := by omega
    subst hii
    rw [Ref.thwartref06_Disk_without.l0, if_neg (by omega)]
    simp [wo]
  | succ n ih =>
    intro i fuel acc hn hi hf ha
    obtain ⟨fuel, rfl⟩ : ∃ f, fuel = f + 1 := ⟨fuel - 1, by omega⟩
    have hil : i < L.length := by omega
    rw [Ref.thwartref06_Disk_without.l0, if_pos (by omega), if_pos (by omega)]
    have e := rdR_at hil
    unfold rdR at e
    rw [e]
    have e2 : wrap64 ((i : Int) + 1) = ((i + 1 : Nat) : Int) := by rw [w64 (by omega)]; rfl
    have e3 : wo (L.drop i) k = (if L[i].f0 = k then [] else [L[i]]) ++ wo (L.drop (i + 1)) k := by
      rw [List.drop_eq_getElem_cons hil]
      unfold wo
      rw [List.filter_cons]
      by_cases h : L[i].f0 = k <;> simp [h]
    rw [e2, e3]
    by_cases hk : L[i].f0 = k
    · rw [if_pos (toList_inj.2 hk), if_pos hk, ih (i + 1) fuel acc (by omega) (by omega) (by omega) (by omega)]
      rfl
    · rw [if_neg (fun h => hk (toList_inj.1 h)), if_neg hk, if_pos (by omega), ih (i + 1) fuel _ (by omega) (by omega) (by omega) (by simp; omega)]
      simp
theorem wo_f (L : List RFile) (hl : L.length ≤ 1000000) (k : ByteArray) (a c : Int) (b : Bool) : Ref.thwartref06_Disk_without.f (L.length + 1) a L c b k = some (wo L k, a, c, b) := by
  have := wo_l0 L hl k a c b L.length 0 (L.length + 1) [] (by omega) (by omega) (by omega) (Nat.le_refl _)
  simpa [Ref.thwartref06_Disk_without.f] using this
theorem lst_l0 (L : List RFile) (hl : L.length ≤ 1000000) (a c : Int) (b : Bool) : ∀ (n i fuel : Nat) (acc : List ByteArray), L.length - i = n → i ≤ L.length → n < fuel → acc.length = i →
    Ref.thwartref06_Disk_List.l0 fuel acc (i : Int) a L c b = some (acc ++ (L.drop i).map (·.f0), a, c, b) := by
  intro n
  induction n with
  | zero =>
    intro i fuel acc hn hi hf ha
    obtain ⟨fuel, rfl⟩ : ∃ f, fuel = f + 1 := ⟨fuel - 1, by omega⟩
    have hii : i = L.length := by omega
    subst hii
    rw [Ref.thwartref06_Disk_List.l0, if_neg (by omega)]
    simp
  | succ n ih =>
    intro i fuel acc hn hi hf ha
    obtain ⟨fuel, rfl⟩ : ∃ f, fuel = f + 1 := ⟨fuel - 1, by omega⟩
    have hil : i < L.length := by omega
    rw [Ref.thwartref06_Disk_List.l0, if_pos (by omega), if_pos (by omega), if_pos (by omega)]
    have e := rdR_at hil
    unfold rdR at e
    rw [e]
    have e2 : wrap64 ((i : Int) + 1) = ((i + 1 : Nat) : Int) := by rw [w64 (by omega)]; rfl
    rw [e2, ih (i + 1) fuel _ (by omega) (by omega) (by omega) (by simp; omega), List.drop_eq_getElem_cons hil]
    simp only [List.map_cons, List.append_assoc, List.singleton_append]
theorem lst_f (L : List RFile) (hl : L.length ≤ 1000000) (a c : Int) (b : Bool) : Ref.thwartref06_Disk_List.f (L.length + 1) a L c b = some (L.map (·.f0), a, c, b) := by
  have := lst_l0 L hl a c b L.length 0 (L.length + 1) [] (by omega) (by omega) (by omega) rfl
  simpa [Ref.thwartref06_Disk_List.f] using this
def bytes (L : List RFile) : Int := (L.map fun x => (x.f1.size : Int)).sum
theorem left_l0 (L : List RFile) (hl : L.length ≤ 1000000) (a c : Int) (b : Bool) (ha : a ≤ 1048576) : ∀ (n i fuel : Nat) (r : Int), L.length - i = n → i ≤ L.length → n < fuel → r ≤ 1048576 → 0 ≤ r - bytes (L.drop i) →
    Ref.thwartref06_Disk_Left.l0 fuel r (i : Int) a L c b = some (r - bytes (L.drop i), a, c, b) := by
  have hb0 : ∀ l : List RFile, 0 ≤ bytes l := fun l => by
    unfold bytes
    induction l with
    | nil => simp
    | cons x l ih => simp only [List.map_cons, List.sum_cons]; omega
  intro n
  induction n with
  | zero =>
    intro i fuel r hn hi hf hr h0
    obtain ⟨fuel, rfl⟩ : ∃ f, fuel = f + 1 := ⟨fuel - 1, by omega⟩
    have hii : i = L.length := by omega
    subst hii
    rw [Ref.thwartref06_Disk_Left.l0, if_neg (by omega)]
    simp [bytes]
  | succ n ih =>
    intro i fuel r hn hi hf hr h0
    obtain ⟨fuel, rfl⟩ : ∃ f, fuel = f + 1 := ⟨fuel - 1, by omega⟩
    have hil : i < L.length := by omega
    rw [Ref.thwartref06_Disk_Left.l0, if_pos (by omega), if_pos (by omega)]
    have e := rdR_at hil
    unfold rdR at e
    rw [e]
    have e2 : wrap64 ((i : Int) + 1) = ((i + 1 : Nat) : Int) := by rw [w64 (by omega)]; rfl
    have e3 : bytes (L.drop i) = (L[i].f1.size : Int) + bytes (L.drop (i + 1)) := by
      unfold bytes; rw [List.drop_eq_getElem_cons hil, List.map_cons, List.sum_cons]
    have := hb0 (L.drop (i + 1))
    rw [e3] at h0 ⊢
    rw [e2, w64 (by omega), ih (i + 1) fuel _ (by omega) (by omega) (by omega) (by omega) (by omega)]
    congr 2
    omega
theorem left_f (L : List RFile) (hl : L.length ≤ 1000000) (a c : Int) (b : Bool) (ha : a ≤ 1048576) (h0 : 0 ≤ a - bytes L) : Ref.thwartref06_Disk_Left.f (L.length + 1) a L c b = some (a - bytes L, a, c, b) := by
  have := left_l0 L hl a c b ha L.length 0 (L.length + 1) a (by omega) (by omega) (by omega) ha (by simpa using h0)
  simpa [Ref.thwartref06_Disk_Left.f] using this
theorem bytes_refL {m : Fls} (hn : (m.map (·.1)).Nodup) : bytes (refL m) = total m := by
  rw [← names_total hn]
  unfold bytes refL
  rw [List.map_map]; rfl
theorem str_l0 (L : List ByteArray) (hl : L.length ≤ 1000000) : ∀ (n i fuel : Nat), L.length - i = n → i ≤ L.length → n < fuel → Ref.thwartref06_Strings.l0 fuel L L (i : Int) = some true := by
  intro n
  induction n with
  | zero =>
    intro i fuel hn hi hf
    obtain ⟨fuel, rfl⟩ : ∃ f, fuel = f + 1 := ⟨fuel - 1, by omega⟩
    rw [Ref.thwartref06_Strings.l0, if_neg (by omega)]
  | succ n ih =>
    intro i fuel hn hi hf
    obtain ⟨fuel, rfl⟩ : ∃ f, fuel = f + 1 := ⟨fuel - 1, by omega⟩
    have e2 : wrap64 ((i : Int) + 1) = ((i + 1 : Nat) : Int) := by rw [w64 (by omega)]; rfl
    rw [Ref.thwartref06_Strings.l0, if_pos (by omega), if_pos (by omega), if_pos (by omega), if_pos rfl, e2]
    exact ih (i + 1) fuel (by omega) (by omega) (by omega)
theorem str_f (L : List ByteArray) (hl : L.length ≤ 1000000) : Ref.thwartref06_Strings.f (L.length + 1) L L = some true := by
  unfold Ref.thwartref06_Strings.f
  rw [if_pos rfl]
  exact str_l0 L hl L.length 0 _ (by omega) (by omega) (by omega)
theorem wi_at (x : RFile) : ∀ (L : List RFile) (i : Nat), (∀ j (h : j < L.length), j < i → slB L[j].f0 x.f0 = true) → (∀ h : i < L.length, slB L[i].f0 x.f0 = false) → i ≤ L.length → wi L x = L.take i ++ x :: L.drop i
  | [], i, _, _, h => by simp at h; subst h; rfl
  | y :: L, 0, _, h, _ => by
    have h0 : slB y.f0 x.f0 = false := h (by simp)
    simp [wi, List.takeWhile_cons, List.dropWhile_cons, h0]
  | y :: L, i + 1, h1, h2, h3 => by
    have h0 : slB y.f0 x.f0 = true := h1 0 (by simp) (by omega)
    have := wi_at x L i (fun j h hj => h1 (j + 1) (by simpa using h) (by omega)) (fun h => h2 (by simpa using h)) (by simpa using h3)
    unfold wi at this ⊢
    rw [List.takeWhile_cons, if_pos h0, List.dropWhile_cons, if_pos h0, List.cons_append, this]
    rfl
theorem wi_l0 (L : List RFile) (hl : L.length ≤ 1000000) (x : RFile) : ∀ (n i fuel : Nat), L.length - i = n → i ≤ L.length → n < fuel → (∀ j (h : j < L.length), j < i → slB L[j].f0 x.f0 = true) →
    Ref.thwartref06_with.l0 fuel L (i : Int) x.f0 x.f1 x.f2 = some (wi L x) := by
  intro n
  induction n with
  | zero =>
    intro i fuel hn hi hf hj
    obtain ⟨fuel, rfl⟩ : ∃ f, fuel = f + 1 := ⟨fuel - 1, by omega⟩
    have hii : i = L.length := by omega
    subst hii
    rw [Ref.thwartref06_with.l0, if_neg (by omega), wi_at x L L.length hj (fun h => absurd h (by omega)) (Nat.le_refl _)]
    simp only [Option.bind_some, Int.toNat_natCast, List.length_nil, List.length_take, List.length_append, List.length_drop, List.length_cons]
    rw [if_pos (by omega), if_pos (by omega), if_pos (by omega), if_pos (by omega), if_pos (by omega)]
    simp
  | succ n ih =>
    intro i fuel hn hi hf hj
    obtain ⟨fuel, rfl⟩ : ∃ f, fuel = f + 1 := ⟨fuel - 1, by omega⟩
    have hil : i < L.length := by omega
    rw [Ref.thwartref06_with.l0, if_pos (by omega), if_pos (by omega)]
    have e := rdR_at hil
    unfold rdR at e
    rw [e]
    have e2 : wrap64 ((i : Int) + 1) = ((i + 1 : Nat) : Int) := by rw [w64 (by omega)]; rfl
    by_cases hk : slB L[i].f0 x.f0 = true
    · have hk' := hk
      unfold slB at hk'
      rw [if_pos hk', e2]
      refine ih (i + 1) fuel (by omega) (by omega) (by omega) fun j h hji => ?_
      by_cases hjj : j = i
      · subst hjj; exact hk
      · exact hj j h (by omega)
    · have hk' := hk
      unfold slB at hk'
      rw [if_neg hk', wi_at x L i hj (fun _ => by simpa using hk) hi]
      simp only [Option.bind_some, Int.toNat_natCast, List.length_nil, List.length_take, List.length_append, List.length_drop, List.length_cons]
      rw [if_pos (by omega), if_pos (by omega), if_pos (by omega), if_pos (by omega)]
      simp
theorem wi_f (L : List RFile) (hl : L.length ≤ 1000000) (x : RFile) : Ref.thwartref06_with.f (L.length + 1) L x.f0 x.f1 x.f2 = some (wi L x) :=
  wi_l0 L hl x L.length 0 _ (by omega) (by omega) (by omega) (fun j _ h => absurd h (by omega))
theorem size_f {m : Fls} (hn : (m.map (·.1)).Nodup) (hl : m.length ≤ 1000000) (room fuse : Int) (down : Bool) (k : ByteArray) : Ref.thwartref06_Disk_Size.f ((refL m).length + 1) room (refL m) fuse down k = some (((⟨room, m, fuse, down⟩ : Dsk).size k).1, ((⟨room, m, fuse, down⟩ : Dsk).size k).2, room, fuse, down) := by
  unfold Ref.thwartref06_Disk_Size.f
  rw [at_f _ (by rw [refL_length]; exact hl)]
  simp only [Option.bind_some]
  rcases atR_refL hn k with ⟨h1, h2⟩ | ⟨f, i, h1, h2, h3⟩
  · rw [h2, if_pos (by omega)]
    simp [Dsk.size, h1]
  · have hil := (List.getElem?_eq_some_iff.1 h3).1
    have e := rdR_at hil
    rw [(List.getElem?_eq_some_iff.1 h3).2] at e
    unfold rdR at e
    rw [h2, if_neg (by omega), if_pos (by omega), if_pos (by omega), e]
    simp [Dsk.size, h1]
theorem read_f {m : Fls} (hn : (m.map (·.1)).Nodup) (hl : m.length ≤ 1000000) (hg : ∀ p ∈ m, p.2.b.size ≤ 9223372036854775807) (room fuse : Int) (down : Bool) (k : ByteArray) (off n : Int) :
    Ref.thwartref06_Disk_Read.f ((refL m).length + 1) room (refL m) fuse down k off n = some (((⟨room, m, fuse, down⟩ : Dsk).read k off n).1, ((⟨room, m, fuse, down⟩ : Dsk).read k off n).2, room, fuse, down) := by
  unfold Ref.thwartref06_Disk_Read.f
  rw [at_f _ (by rw [refL_length]; exact hl)]
  simp only [Option.bind_some]
  rcases atR_refL hn k with ⟨h1, h2⟩ | ⟨f, i, h1, h2, h3⟩
  · rw [h2, if_pos (by omega)]
    simp [Dsk.read, h1]
  · have hil := (List.getElem?_eq_some_iff.1 h3).1
    have e := rdR_at hil
    rw [(List.getElem?_eq_some_iff.1 h3).2] at e
    unfold rdR at e
    have hs := hg _ (look_mem h1)
    simp only at hs
    rw [h2, if_neg (by omega), if_pos (by omega), if_pos (by omega), e]
    simp only [Dsk.read, h1]
    by_cases c1 : off < 0
    · rw [if_pos c1, if_pos (Or.inl c1)]
    by_cases c2 : n < 0
    · rw [if_neg c1, if_pos c2, if_pos (Or.inr (Or.inl c2))]
    by_cases c3 : (f.b.size : Int) < off
    · rw [if_neg c1, if_neg c2, if_pos c3, if_pos (Or.inr (Or.inr (Or.inl c3)))]
    rw [if_neg c1, if_neg c2, if_neg c3, w64 (by omega)]
    by_cases c4 : (f.b.size : Int) - off < n
    · rw [if_pos c4, if_pos (Or.inr (Or.inr (Or.inr c4)))]
    rw [if_neg c4, if_pos (by omega), w64 (by omega), if_pos (by omega), if_pos (by omega), if_neg (by omega)]
end Go.Proofs.Ytpmnljdhjgjgfaa.Thw
