/- This cut lacks the document's Writes, Meet. -/
import Derived.Test.YtmgiholmhhjpaaaDoorRecChecksQ25
import Derived.Test.YtmgiholmhhjpaaaDoorRecChecksQ26

