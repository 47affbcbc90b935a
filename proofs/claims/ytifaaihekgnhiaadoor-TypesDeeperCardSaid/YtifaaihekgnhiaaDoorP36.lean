/- Texts laid together: TyNum, TyLawQ. -/
import Derived.Test.YtifaaihekgnhiaaDoorP35
import Derived.Test.YtifaaihekgnhiaaDoorP27

/- numbered, whatever the type; Canon. -/
namespace Go.Proofs.YtifaaihekgnhiaaDoor.Tp
open Go.RowKit

theorem num_said : ∀ d : Nat, NumSaid d := by
  intro d
  induction d with
  | zero => intro free fv n t S Sf a c W hg h; rw [t.depth_eq] at h; omega
  | succ d ih =>
    intro free fv n t S Sf a c W hg hd hs hb hF hA hS hSf hT
    by_cases hk : t.kind = 5
    · exact num_all d ih free fv n t S Sf a c W hk hg hd hs hb hF hA hS hSf hT
    · exact num_with d ih free fv n t S Sf a c W hk hg hd hs hb hF hA hS hSf hT

/-- the text with canonical names -/
def canonS (t : Ty) : List UInt8 := printT (canonT t)

theorem canon_size (t : Ty) (hs : t.size ≤ 1073741824) : t.size * ((freeT t).length + 1) ≤ 4611686018427387904 := by
  have h1 := freeT_len t
  have h2 : t.size * ((freeT t).length + 1) ≤ 1073741824 * (1073741824 + 1) := Nat.mul_le_mul hs (by omega)
  omega

end Go.Proofs.YtifaaihekgnhiaaDoor.Tp

/- Parse's answers. No program in sight. -/
namespace Go.Proofs.YtifaaihekgnhiaaDoor.Tp
open Lx

theorem parse_long {l : List UInt8} (h : 4000 < l.length) : parseT l = .error 2 := by
  rw [parseT, scanR_long l h]; rfl
theorem scan_er (l : List UInt8) : (scanR l).2.2 = 0 ∨ (scanR l).2.2 = 2 ∨ (scanR l).2.2 = 10 := by
  by_cases h : l.length ≤ 4000
  · rw [scanR_S l h]
    rcases scanS_er l.length false l 0 [] (Nat.le_refl _) with h | ⟨q, h, _⟩
    · exact .inl h
    · rw [h]; exact .inr (.inr rfl)
  · rw [scanR_long l (by omega)]; exact .inr (.inl rfl)
theorem parse_er {l : List UInt8} {er : Nat} (h : parseT l = .error er) : er ≠ 0 := by
  rw [parseT] at h
  split at h
  · next hn => injection h with h; rw [← h]; exact hn
  · split at h
    · injection h with h; omega
    · split at h
      · injection h with h; omega
      · split at h
        · injection h with h; omega
        · cases h
theorem parse_bytes (l : List UInt8) : parseT (bytes l).data.toList = parseT l := by rw [bytes_list]
theorem bytes_le {l : List UInt8} (h : l.length ≤ 1099511627776) : (bytes l).size ≤ maxLen := by
  rw [show (bytes l).size = l.length from by simp [bytes, ByteArray.size]]
  unfold maxLen; omega
theorem parse_canon {t : Ty} (h : Mk t) (hd : t.depth ≤ 50) (hs : t.size ≤ 4000) (hl : (canonS t).length ≤ 4000) : parseT (canonS t) = .ok (canonT t) := by
  obtain ⟨h1, h2, _⟩ := canon_mk t h (by omega)
  exact parse_print (canonT t) h1 (by omega) hl
theorem print_small {t : Ty} (h : Mk t) (hs : t.size ≤ 4000) : (printT t).length ≤ 1099511627776 := by
  have := printT_len t (mk_good t h); omega
theorem canon_small {t : Ty} (h : Mk t) (hs : t.size ≤ 4000) : (canonS t).length ≤ 1099511627776 := by
  obtain ⟨h1, _, h3⟩ := canon_mk t h (by omega)
  exact print_small h1 (by omega)
theorem canonS_twice {t : Ty} (h : Mk t) (hs : t.size ≤ 4000) : canonS (canonT t) = canonS t := by
  unfold canonS; rw [canon_twice t h (by omega)]

end Go.Proofs.YtifaaihekgnhiaaDoor.Tp
