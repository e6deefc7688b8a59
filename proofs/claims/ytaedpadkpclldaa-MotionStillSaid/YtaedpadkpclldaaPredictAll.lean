/- What the two functions Predict return, for all arguments. -/
import Derived.Test.YtaedpadkpclldaaMPredictA
import Derived.Test.YtaedpadkpclldaaMPredictB
import Derived.Test.YtaedpadkpclldaaMPredictRA
import Derived.Test.YtaedpadkpclldaaMPredictRB
import Derived.Test.YtaedpadkpclldaaRPredictA
import Derived.Test.YtaedpadkpclldaaRPredictB
import Derived.Test.YtaedpadkpclldaaRPredictRA
import Derived.Test.YtaedpadkpclldaaRPredictRB
namespace Go.Proofs.Ytaedpadkpclldaa
open Go.RowKit

theorem motion_Predict {p : Nat → Prop} (v : Value) (f : Fr) (x y pw ph vx vy : Int) (w : World) (hf : IsFr p w v f) :
    Calls Try.prog 15 #[v, .int .i64 x, .int .i64 y, .int .i64 pw, .int .i64 ph, .agg #[.int .i64 vx, .int .i64 vy]] w (RetFr w (predF f x y pw ph vx vy)) := by
  unfold predF
  by_cases h : predOk f x y pw ph
  · rw [if_pos h]
    obtain ⟨W, H, Y, U, V⟩ := f
    obtain ⟨h1, rfl, hh, h2, h3, h4, h5, h6, h7⟩ := h
    by_cases hm : mayB vx vy = true
    · rw [if_pos hm]
      rcases hh with rfl | rfl
      · exact motion_Predict_yes8 v W H Y U V x y vx vy w hf h1 h2 h3 h4 h5 h6 h7 hm
      · exact motion_Predict_yes16 v W H Y U V x y vx vy w hf h1 h2 h3 h4 h5 h6 h7 hm
    · rw [if_neg hm]
      have hm' : mayB vx vy = false := by simpa using hm
      rcases hh with rfl | rfl
      · exact motion_Predict_range8 v W H Y U V x y vx vy w hf h1 h2 h3 h4 h5 h6 h7 hm'
      · exact motion_Predict_range16 v W H Y U V x y vx vy w hf h1 h2 h3 h4 h5 h6 h7 hm'
  · rw [if_neg h]
    exact motion_Predict_no v f x y pw ph vx vy w hf h

theorem ref_Predict {p : Nat → Prop} (v : Value) (f : Fr) (x y pw ph vx vy : Int) (w : World) (hf : IsFr p w v f) :
    Calls Try.prog 16 #[v, .int .i64 x, .int .i64 y, .int .i64 pw, .int .i64 ph, .agg #[.int .i64 vx, .int .i64 vy]] w (RetFr w (predF f x y pw ph vx vy)) := by
  unfold predF
  by_cases h : predOk f x y pw ph
  · rw [if_pos h]
    obtain ⟨W, H, Y, U, V⟩ := f
    obtain ⟨h1, rfl, hh, h2, h3, h4, h5, h6, h7⟩ := h
    by_cases hm : mayB vx vy = true
    · rw [if_pos hm]
      rcases hh with rfl | rfl
      · exact ref_Predict_yes8 v W H Y U V x y vx vy w hf h1 h2 h3 h4 h5 h6 h7 hm
      · exact ref_Predict_yes16 v W H Y U V x y vx vy w hf h1 h2 h3 h4 h5 h6 h7 hm
    · rw [if_neg hm]
      have hm' : mayB vx vy = false := by simpa using hm
      rcases hh with rfl | rfl
      · exact ref_Predict_range8 v W H Y U V x y vx vy w hf h1 h2 h3 h4 h5 h6 h7 hm'
      · exact ref_Predict_range16 v W H Y U V x y vx vy w hf h1 h2 h3 h4 h5 h6 h7 hm'
  · rw [if_neg h]
    exact ref_Predict_no v f x y pw ph vx vy w hf h
end Go.Proofs.Ytaedpadkpclldaa
