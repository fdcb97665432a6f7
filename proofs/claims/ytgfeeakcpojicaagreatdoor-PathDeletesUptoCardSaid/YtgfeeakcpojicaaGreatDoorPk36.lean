/- The texts RefO, put together. -/
import Derived.Test.YtgfeeakcpojicaaGreatDoorPk35
import Derived.StillTailTactics
/- The reference: a natural's digits (targumref01.Of); a character's bytes (targumref02.Bytes). -/
namespace Go.Proofs.YtgfeeakcpojicaaGreatDoor
open Go.RowKit Go.Shelf

/-- A row of bytes known whole, as a string. -/
theorem run_convB {P : Program} {src dst e : TypeId} (hs : P.underlying src = some (.slice e)) (he : P.underlying e = some (.int .u8)) (hd : P.underlying dst = some .string) (l : List UInt8) (W : World) (b n : Nat) (hn : n = l.length) (h : Blk W b (byteVals l).toArray e) :
    (convert src dst (.slice (some ⟨b, 0, none⟩) n n)).run P W = .ok (.string ⟨l.toArray⟩) W := by
  subst hn
  refine run_convert_bytes_back _ src dst e ⟨b, 0, none⟩ l.length l hs he hd (fun j hj => ?_)
  have ea : (⟨b, 0, none⟩ : Addr).add j = ⟨b, j, none⟩ := by
    unfold Addr.add
    split
    · rename_i h0
      rw [h0]
    · simp
  rw [ea, h.cell j]
  simp [byteVals, hj]
theorem run_convD {P : Program} {src dst e : TypeId} (hs : P.underlying src = some (.slice e)) (he : P.underlying e = some (.int .u8)) (hd : P.underlying dst = some .string) (W : World) (d : Nat) (h : d < 10) :
    (convert src dst (.slice (some ⟨W.heap.size, 0, none⟩) 1 1)).run P (W.alloc (.cells #[.int .u8 (48 + (d : Int))] e)) = .ok (.string ⟨#[UInt8.ofNat (48 + d)]⟩) (W.alloc (.cells #[.int .u8 (48 + (d : Int))] e)) := by
  have hv : (byteVals [UInt8.ofNat (48 + d)]).toArray = #[.int .u8 (48 + (d : Int))] := by
    have : ((UInt8.ofNat (48 + d)).toNat : Int) = 48 + (d : Int) := by
      rw [UInt8.toNat_ofNat']
      omega
    simp [byteVals]
    omega
  refine run_convB hs he hd [UInt8.ofNat (48 + d)] _ _ 1 rfl ?_
  rw [hv]
  exact Blk.new W _ _

set_option maxHeartbeats 2000000 in
set_option maxRecDepth 100000 in
theorem ref_Of : ∀ (f n : Nat), n < f → n ≤ 18446744073709551615 → ∀ w : World,
    Calls Tryz.prog 29 #[.int .u64 (n : Int)] w fun e w' => e = .returned (.string ⟨(Lib.decDigits n).toArray⟩) ∧ Below w.heap.size w w' := by
  intro f
  induction f with
  | zero =>
    intro n hf
    exact absurd hf (by omega)
  | succ f ih =>
    intro n hf hn w
    obtain ⟨d, hd⟩ : ∃ d, n % 10 = d := ⟨_, rfl⟩
    have hdz : (n : Int) % 10 = (d : Int) := by omega
    have hd10 : d < 10 := by omega
    have kcv := run_convD (P := Tryz.prog) Tryz.underlying57 Tryz.underlying5 Tryz.underlying9 w d hd10
    obtain ⟨ch, hch⟩ : ∃ ch, UInt8.ofNat (48 + d) = ch := ⟨_, rfl⟩
    rw [hch] at kcv
    have q1 : 0 ≤ 48 + (d : Int) ∧ 48 + (d : Int) < 256 := by omega
    by_cases h1 : n < 10
    · rw [Lib.decDigits_one h1, show 48 + n = 48 + d by omega, hch]
      have z1 : (n : Int) < 10 := by omega
      clear ih hd10 hch
      go_enter Tryz.func29, Tryz.ntmps29
      go_wp2_with fail
      go_ret
      exact ⟨rfl, (Below.refl _ w).alloc (Nat.le_refl _) _⟩
    · rw [Lib.decDigits, dif_neg h1, hd, hch]
      have z1 : ¬ (n : Int) < 10 := by omega
      obtain ⟨q, hq⟩ : ∃ q, n / 10 = q := ⟨_, rfl⟩
      have hqz : (n : Int) / 10 = (q : Int) := by omega
      rw [hq]
      have HI := Lib.hid (ih q (by omega) (by omega))
      obtain ⟨qs, hqs⟩ : ∃ qs : ByteArray, (⟨(Lib.decDigits q).toArray⟩ : ByteArray) = qs := ⟨_, rfl⟩
      rw [hqs] at HI
      have hcat : (⟨(Lib.decDigits q ++ [ch]).toArray⟩ : ByteArray) = qs ++ ⟨#[ch]⟩ := by
        apply str_ext
        rw [← hqs]
        simp
      rw [hcat]
      have hqz2 : qs.size + 1 ≤ 100 := by
        have h1 : qs.data.toList.length = qs.size := by simp
        have h2 := nDigits_le 19 q (by omega)
        rw [← hqs, Lib.decDigits_length, ← Lib.decDigits_length] at h1
        rw [Lib.decDigits_length] at h1
        have h3 : qs.size = Lib.nDigits q := by rw [h1, ← hqs]
        omega
      have hb1 := (Below.refl w.heap.size w).alloc (Nat.le_refl _) (.cells #[.int .u8 (48 + (d : Int))] 5)
      clear ih hd10 hqs hcat hch
      go_enter Tryz.func29, Tryz.ntmps29
      go_wp2_with fail
      refine (HI.out _).mono ?_
      rintro e w2 ⟨rfl, hb2⟩
      go_wp2_with fail
      go_ret
      exact ⟨rfl, hb1.trans (hb2.mono hb1.size)⟩
end Go.Proofs.YtgfeeakcpojicaaGreatDoor
