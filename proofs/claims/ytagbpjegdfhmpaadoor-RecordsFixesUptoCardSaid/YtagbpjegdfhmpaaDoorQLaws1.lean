/- What the law of labels and addresses answers, for every text of at most 1048576 bytes. -/
import Derived.Test.YtagbpjegdfhmpaaDoorQLab
namespace Go.Proofs.YtagbpjegdfhmpaaDoor.Q
open Go.RowKit Go.Proofs.YtagbpjegdfhmpaaDoorW.PrintWords Go.Proofs.YtagbpjegdfhmpaaDoorW.PrintLast Go.Proofs.YtagbpjegdfhmpaaDoor.G Go.Proofs.YtagbpjegdfhmpaaDoor.P

def web1 : ByteArray := ⟨#[87, 101, 98, 45, 49]⟩
def ip : ByteArray := ⟨#[49, 48, 46, 48, 46, 48, 46, 50, 53, 53]⟩
theorem label_web1 : labelS web1 = (⟨#[119, 101, 98, 45, 49]⟩, 0) := by decide +kernel
theorem parts_ip : parts ip = [⟨#[49, 48]⟩, ⟨#[48]⟩, ⟨#[48]⟩, ⟨#[50, 53, 53]⟩] := by decide +kernel
theorem addr_ip : addrS ip = (10, 0, 0, 255, 0) := by
  unfold addrS
  rw [parts_ip]
  simp only [four, decB_num]
  rfl
theorem fixed (k : Nat) (hk : 70 ≤ k) : musterlaw09_recordsFixed.f k = some true := by
  unfold musterlaw09_recordsFixed.f
  rw [show (⟨#[87, 101, 98, 45, 49]⟩ : ByteArray) = web1 from rfl, label web1 (by decide) k (by omega), show (⟨#[49, 48, 46, 48, 46, 48, 46, 50, 53, 53]⟩ : ByteArray) = ip from rfl, addr ip (by decide), label_web1, addr_ip]
  simp only [Option.bind_some]
  rw [if_pos (by rw [ByteArray.toList_eq]), if_pos trivial, if_pos (by decide)]
  rfl
theorem names : musterlaw09_RecordsNames.f 70 = some true := by
  unfold musterlaw09_RecordsNames.f
  rw [fixed 70 (by omega)]
  rfl
theorem labels (s : ByteArray) (hs : s.size ≤ 1048576) : ∃ k, musterlaw09_RecordsLabels.f k s = some true := by
  refine ⟨s.size + 70, ?_⟩
  unfold musterlaw09_RecordsLabels.f
  rw [fixed _ (by omega), refLabel s hs _ (by omega), label s (by omega) _ (by omega), refAddr s hs _ (by omega), addr s hs]
  simp
end Go.Proofs.YtagbpjegdfhmpaaDoor.Q
