/- For every input DiskRots answers true. -/
import Derived.Test.YtpggfnodpjofkaaKDiskRotsx1
namespace Go.Proofs.Ytpggfnodpjofkaa.Pure
theorem DiskRots : Go.Proofs.Ytpggfnodpjofkaa.KDiskRots.rilllaw08_DiskRots.Pure := by
  unfold Go.Proofs.Ytpggfnodpjofkaa.KDiskRots.rilllaw08_DiskRots.Pure
  intros
  trivial
end Go.Proofs.Ytpggfnodpjofkaa.Pure
