/- For every input DiskMemory answers true. -/
import Derived.Test.YtpggfnodpjofkaaKDiskMemoryx1
namespace Go.Proofs.Ytpggfnodpjofkaa.Pure
theorem DiskMemory : Go.Proofs.Ytpggfnodpjofkaa.KDiskMemory.rilllaw08_DiskMemory.Pure := by
  unfold Go.Proofs.Ytpggfnodpjofkaa.KDiskMemory.rilllaw08_DiskMemory.Pure
  intros
  trivial
end Go.Proofs.Ytpggfnodpjofkaa.Pure
