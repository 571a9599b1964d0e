/-
  The plain law of ImageAny and of the examples.
-/
import Derived.Test.YtinkdjeanjhkbaaGreatDoorPI
namespace Go.Proofs.YtinkdjeanjhkbaaGreatDoor

theorem num0 : Num 0 := ⟨by decide, by decide⟩
theorem num1 : Num (0 + 1) := ⟨by decide, by decide⟩
theorem holds0 : Holds (bytesL 0 []) 0 [] 0 := holds_one num0 (by decide)

theorem any_put (text : ByteArray) (room : Int) (ht : text.size ≤ 2000000) (h0 : 1000 + (text.size : Int) ≤ room) (h1 : room ≤ 6000000) :
    putBR (formattedR room).1 text = (rib room (bytesL 1 (bl text)) [], true) ∧ (formattedR room).2 = true ∧ getR (rib room (bytesL 1 (bl text)) []) = .inr (text, 1) := by
  have hr : 1000 ≤ room ∧ room ≤ 6000000 := ⟨by omega, h1⟩
  have hl := bytesL_len 1 (bl text) (by decide) (by decide) (by rw [← size_bl]; omega)
  rw [← size_bl] at hl
  have l0 := len0
  rw [formattedR_ok hr]
  refine ⟨?_, rfl, ?_⟩
  · have hz : (0 : Int) + 1 = 1 := by decide
    have h := putBR_ok (n := 0) (F := bytesL 0 []) (t := []) (k := 0) (room := room) text hr (by omega) holds0 num1 ht
    rw [hz] at h
    exact h (by omega)
  · have h := getR_ok hr (F := bytesL 1 (bl text)) (by omega) (holds_one (n := 1) num1 (by rw [← size_bl]; omega))
    rwa [mk_bl] at h

/-! ### the examples -/

def exA : Rib := rib 1000 [97, 98, 99, 100] []
def exB : Rib := rib 1000 [97, 98, 99, 100] [keepAct 1 3, addAct (mkB [120, 121])]
theorem exB_valid : exB.valid := by
  refine (valid_iff _ _ _).2 ⟨by decide, by decide, by decide, ⟨ok_keep 1 3, .inr rfl, ?_⟩, fun _ => ⟨by decide, by decide, by decide⟩, by decide⟩
  intro a ha
  simp at ha
  subst ha
  exact ⟨ok_add (by decide) (by decide), rfl⟩
theorem exA_valid : exA.valid := rib_valid0 (by decide) (by decide)
theorem ex_act : actR exA [keepAct 1 3, addAct (mkB [120, 121])] = some exB := by
  rw [actR_of exA_valid]
  have s1 : actStep exA (keepAct 1 3) = some (rib 1000 [97, 98, 99, 100] [keepAct 1 3]) := step_keep (by decide) (by decide) (by decide) (by decide) (by decide)
  rw [actsFrom_cons s1]
  have s2 : actStep (rib 1000 [97, 98, 99, 100] [keepAct 1 3]) (addAct (mkB [120, 121])) = some exB := by
    unfold actStep
    rw [if_neg (by rw [ok_add (by decide) (by decide)]; decide), if_neg (by show ¬ (1 : Int) = 3; decide), if_pos]
    · rfl
    · exact exB_valid
  rw [actsFrom_cons s2]
  rfl
theorem ex_fast : actR exB [fastAct] = some (rib 1000 [98, 99, 120, 121] []) := by
  rw [actR_of exB_valid]
  have s1 : actStep exB fastAct = some (rib 1000 [98, 99, 120, 121] []) := by
    unfold actStep
    rw [if_neg (by rw [ok_fast]; decide), if_pos (by rfl)]
    rfl
  rw [actsFrom_cons s1]
  rfl
theorem ex_lost1 : lostR exB 0 1 0 = mkB [97, 98, 99, 100, 120] := by
  unfold lostR loseR; rw [if_pos exB_valid]; rfl
theorem ex_lost2 : lostR exB 1 5 1 = mkB [98, 99, 120, 126] := by
  unfold lostR loseR; rw [if_pos exB_valid]; rfl
theorem ex_lost3 : lostR exB 1 1 1 = mkB [98, 99, 126] := by
  unfold lostR loseR; rw [if_pos exB_valid]; rfl
end Go.Proofs.YtinkdjeanjhkbaaGreatDoor
