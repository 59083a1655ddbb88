/- A stub: in this seat's cut there is no stonecropref03.Put; what stands on it here needs these texts alone. -/
import Derived.Test.YtmgiholmhhjpaaaDoorItem
import Derived.Test.YtmgiholmhhjpaaaDoorTreeB
import Derived.Test.YtmgiholmhhjpaaaDoorText
