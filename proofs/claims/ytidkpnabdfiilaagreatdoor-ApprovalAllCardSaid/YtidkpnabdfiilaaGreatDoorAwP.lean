/- Plain: the chapter's example, reckoned. -/
import Derived.Test.YtidkpnabdfiilaaGreatDoorAvQ
namespace Go.Proofs.YtidkpnabdfiilaaGreatDoor
open Go.RowKit

def awOwn : ByteArray := ⟨#[97, 108, 108, 32, 103, 114, 111, 117, 112, 32, 97, 110, 110, 32, 59, 32, 112, 114, 101, 102, 105, 120, 32, 100, 111, 99, 47, 32, 103, 114, 111, 117, 112, 32, 98, 111, 98, 32, 59]⟩
def awOld : List OFile := [⟨⟨#[79, 87, 78, 69, 82, 83]⟩, ⟨#[97, 108, 108, 32, 103, 114, 111, 117, 112, 32, 97, 110, 110, 32, 59, 32, 112, 114, 101, 102, 105, 120, 32, 100, 111, 99, 47, 32, 103, 114, 111, 117, 112, 32, 98, 111, 98, 32, 59]⟩⟩, ⟨⟨#[100, 111, 99, 47, 121]⟩, ⟨#[49]⟩⟩, ⟨⟨#[120]⟩, ⟨#[49]⟩⟩]
def awNew : List OFile := [⟨⟨#[79, 87, 78, 69, 82, 83]⟩, ⟨#[97, 108, 108, 32, 103, 114, 111, 117, 112, 32, 97, 110, 110, 32, 59, 32, 112, 114, 101, 102, 105, 120, 32, 100, 111, 99, 47, 32, 103, 114, 111, 117, 112, 32, 98, 111, 98, 32, 59]⟩⟩, ⟨⟨#[100, 111, 99, 47, 121]⟩, ⟨#[50]⟩⟩, ⟨⟨#[120]⟩, ⟨#[50]⟩⟩]
def awOther : List OFile := [⟨⟨#[79, 87, 78, 69, 82, 83]⟩, ⟨#[97, 108, 108, 32, 103, 114, 111, 117, 112, 32, 97, 110, 110, 32, 59, 32, 112, 114, 101, 102, 105, 120, 32, 100, 111, 99, 47, 32, 103, 114, 111, 117, 112, 32, 98, 111, 98, 32, 59]⟩⟩, ⟨⟨#[100, 111, 99, 47, 121]⟩, ⟨#[50]⟩⟩, ⟨⟨#[120]⟩, ⟨#[51]⟩⟩]
def awThird : List OFile := [⟨⟨#[79, 87, 78, 69, 82, 83]⟩, ⟨#[97, 108, 108, 32, 103, 114, 111, 117, 112, 32, 97, 110, 110, 32, 59, 32, 112, 114, 101, 102, 105, 120, 32, 100, 111, 99, 47, 32, 103, 114, 111, 117, 112, 32, 98, 111, 98, 32, 59]⟩⟩, ⟨⟨#[100, 111, 99, 47, 121]⟩, ⟨#[51]⟩⟩, ⟨⟨#[120]⟩, ⟨#[50]⟩⟩]
def awBob : ByteArray := ⟨#[98, 111, 98]⟩
def awAnn : ByteArray := ⟨#[97, 110, 110]⟩
def awAppr : Appr := ⟨awBob, 4, viewOf awOld awNew awBob⟩
theorem aw_saw : sawOf awOld awNew awBob = (viewOf awOld awNew awBob, 0) := by unfold sawOf; rw [if_pos (show treesErr awOld awNew = 0 by kernel_rfl)]
theorem aw_one : standsB awOld awOther awAppr = true := by kernel_rfl
theorem aw_two : standsB awOld awThird awAppr = false := by kernel_rfl
theorem aw_miss : missingOf [awAppr] 4 awOld awNew = ([[awAnn]], 0) := by kernel_rfl
theorem aw_small : SmallF awOld ∧ SmallF awNew ∧ SmallF awOther ∧ SmallF awThird := by
  refine ⟨⟨by decide, fun f hf => ?_⟩, ⟨by decide, fun f hf => ?_⟩, ⟨by decide, fun f hf => ?_⟩, ⟨by decide, fun f hf => ?_⟩⟩
  all_goals
    first
    | simp only [awOld, List.mem_cons, List.not_mem_nil, or_false] at hf
    | simp only [awNew, List.mem_cons, List.not_mem_nil, or_false] at hf
    | simp only [awOther, List.mem_cons, List.not_mem_nil, or_false] at hf
    | simp only [awThird, List.mem_cons, List.not_mem_nil, or_false] at hf
    rcases hf with rfl | rfl | rfl <;> exact ⟨by decide, by decide⟩
end Go.Proofs.YtidkpnabdfiilaaGreatDoor
