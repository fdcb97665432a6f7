/- utf: Unquote, whole. -/
import Derived.Test.YtgfeeakcpojicaaGreatDoorUtfM
namespace Go.Proofs.YtgfeeakcpojicaaGreatDoor
open Go.RowKit Go.Shelf

theorem utf_Unquote {aT aQ : Addr} (s : ByteArray) (w : World) (h : UW w aT aQ) (hs : s.size ≤ 1000000000) :
    Calls Tryz.prog 58 #[.string s] w (UnqPost s w) := by
  have hbad : ∀ b : Bool, unquoteL s.data.toList = .error b → firstV aT aQ s = .tuple #[.int .i32 0, .int .i64 0, errV (if b then aT else aQ)] → Calls Tryz.prog 58 #[.string s] w (UnqPost s w) := fun b hb hf => by
    refine (utf_Unquote_no s w h b hf).mono ?_
    rintro e w' ⟨rfl, hw⟩
    refine ⟨hw, ?_⟩
    rw [hb]
  by_cases h0 : s.size = 0
  · refine hbad false ?_ ?_
    · rw [str_empty h0]
      rfl
    · unfold firstV
      rw [if_pos h0]
      rfl
  · have hne := list_ne h0
    have hdec := decodeGo_list h0
    by_cases h1 : Lib.decodeL s.data.toList = (65533, 1)
    · refine hbad true ?_ ?_
      · unfold unquoteL
        rw [if_neg hne, if_pos h1]
      · unfold firstV
        rw [if_neg h0, hdec, if_pos h1]
        rfl
    · have hf : firstV aT aQ s = .tuple #[.int .i32 (Lib.decodeL s.data.toList).1, .int .i64 (Lib.decodeL s.data.toList).2, .nilIface] := by
        unfold firstV
        rw [if_neg h0, hdec, if_neg h1]
      by_cases h2 : (Lib.decodeL s.data.toList).1 = 34
      · have hle := Lib.decodeL_le _ hne
        have hlen : s.data.toList.length = s.size := by simp
        rw [hlen] at hle
        rw [h2] at hf
        refine (utf_Unquote_in s w h _ (Lib.decodeL_width _) hle hs hf).mono ?_
        rintro e w' ⟨hw, hm⟩
        refine ⟨hw, ?_⟩
        unfold unquoteL
        rw [if_neg hne, if_neg h1, if_neg (fun e => e h2), hlen]
        exact hm
      · refine (utf_Unquote_else s w h _ _ h2 hf).mono ?_
        rintro e w' ⟨rfl, hw⟩
        refine ⟨hw, ?_⟩
        unfold unquoteL
        rw [if_neg hne, if_neg h1, if_pos h2]
        rfl
end Go.Proofs.YtgfeeakcpojicaaGreatDoor
